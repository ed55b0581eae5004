/-
  The rows of FnExactWalkStore and FnExactObjectsOf.
-/
import Derived.Test.YtekbnablgfhhpaaGreatDoorVxP
import Derived.Test.YtekbnablgfhhpaaGreatDoorCards
import Derived.Test.YtekbnablgfhhpaaGreatDoorTie
import Derived.WalkKit
import Derived.ProofKit
import Derived.OpenShut
import Derived.Deep.DeepHandedRow
import Derived.Lib.LaidTab
import Derived.Shelf.Vars
import Derived.Deep.DeepLaidRun
set_option linter.all false
namespace Go.VS
open Go Go.Proofs Go.Proofs.YtekbnablgfhhpaaGreatDoor Go.ChangeShapes Go.WideShapes Go.ChangeAt Go.RowKit
set_option maxRecDepth 100000

theorem mixed : Tryz.prog.follows .mixedOrders = true := by kernel_rfl
theorem laidOut : laidOutB Tryz.prog = true := by kernel_rfl
theorem rd30 : ∀ t, t ∈ [30] → Tryz.prog.readableRec t = true ∧ t < Tryz.prog.types.size := by
  intro t ht
  obtain rfl : t = 30 := by simpa using ht
  exact ⟨by kernel_rfl, of_decide_eq_true (by kernel_rfl)⟩
theorem maxLenCell {W : World} (h : W.ShapedOpen Tryz.prog) : ∃ mm, W.cell? ⟨0, 0, none⟩ = some (.int .i64 mm) :=
  cell_of_shapedOpen_int h (g := 0) (t := 3) (zero := #[.int .i64 0]) (of_decide_eq_true (by kernel_rfl)) (by kernel_rfl) rfl (by kernel_rfl) (by kernel_rfl) Tryz.underlying3

/-- A law over one pager. -/
theorem pager_law {H : Type} {enc : TypeId × Value → H} {k m : Nat} {F : Func} {s : ChangeSpec} (hk : phi k = m) (hcall : ∀ args w, (callFunc m args).run Tryz.prog w = .ok (.enter m args) w) (hF : F.params = #[30]) (hR : F.resultTypes = #[4])
    (hsv : s.vars = []) (hsf : ∀ d, s.fn H [d] = { results := [.lit (.bool true)], args := [d] })
    (law : ∀ (n : N4) (p : Pr), p.big → ∀ K : Out → Prop, Call prog k ⟨[.agg (prR n p)], [], []⟩ K = K (.b true, [], []))
    {W : World} {args : Array Value} {ds gs : List (DataW H)} {before : List MemPlace} {base : Nat} {fresh handsOn again : Bool}
    (hval : ∀ (j : Nat) t v, F.params[j]? = some t → args[j]? = some v → Value.okWide Tryz.prog W .any base t v)
    (hW : DataW.Whole enc Tryz.prog F.params.toList s.vars false W args.toList ds gs before) (hS : W.ShapedOpen Tryz.prog) :
    Calls Tryz.prog m args W fun e W' => ∃ v, e = .returned v ∧ s.post enc Tryz.prog F false fresh handsOn again W args v W' := by
  obtain ⟨mm, hm⟩ := maxLenCell hS
  have hW' := hW
  obtain ⟨p, q, hA, hV, rfl, hfz, hnd⟩ := hW
  rw [hsv] at hV
  obtain ⟨rfl, rfl⟩ := trodVars_none hV
  rw [hF] at hA
  obtain ⟨us, h1, h2, h3⟩ := args_ok (φ := phi) shPager (fun j t v hj hv => hval j t v (by rw [hF]; simpa using hj) (by simpa using hv)) hA
  obtain ⟨cs, ws, h4, h5, rfl⟩ := h1
  obtain rfl : ws = [] := h5
  obtain ⟨n, pr, hb, rfl⟩ := hasPager h4
  have hds : ∃ d, ds = [d] := by
    cases ds with
    | nil => cases hargs : args.toList with
      | nil => rw [hargs] at h2; simp at h2
      | cons => rw [hargs] at hA; exact hA.elim
    | cons d ds =>
      cases ds with
      | nil => exact ⟨d, rfl⟩
      | cons d2 ds =>
        cases hargs : args.toList with
        | nil => rw [hargs] at h2; simp at h2
        | cons v vs =>
          rw [hargs] at hA
          obtain ⟨_, _, _, h6, _⟩ := hA
          cases vs <;> exact h6.elim
  obtain ⟨d, rfl⟩ := hds
  refine (law_calls (k := k) hk tiok mixed (matched hm) (us := [.agg (prR n pr)]) (by simpa using h2.symm) (fun j u hj => by
    have := h3 j u hj
    rw [List.getD_eq_getElem?_getD] at this
    rw [Array.getD_eq_getD_getElem?, ← Array.getElem?_toList]
    exact this) ?_ hcall).mono ?_
  · have := law n pr hb fun o => o.1 = .b true
    exact this.mpr rfl
  · rintro e W' ⟨rfl, hfr⟩
    exact ⟨_, rfl, law_post hW' hsv (by rw [List.append_nil]; exact hsf d) hR Tryz.underlying4 laidOut (by rw [hF]; exact rd30) hfr⟩


theorem own : ownKnob Tryz.prog.godebug = none := by kernel_rfl
mutual
def cellsD : DataW Unit → List Value
  | .lit (.int k n) => [.int k n]
  | .agg ps => cellsDs ps
  | _ => []
def cellsDs : List (DataW Unit) → List Value
  | [] => []
  | d :: ds => cellsD d ++ cellsDs ds
end
def fillO (cs : List Value) : Obj → Obj
  | .cells _ t fz => .cells cs.toArray t fz
  | o => o
theorem gFirst : Tryz.prog.globalNamed "unicode/utf8.first" = some 1 := by kernel_rfl
theorem gAcc : Tryz.prog.globalNamed "unicode/utf8.acceptRanges" = some 2 := by kernel_rfl
noncomputable def laidWorld (os : Os) : World :=
  { World.holding Tryz.prog os ⟨#[], #[], []⟩ with heap := ((World.holding Tryz.prog os ⟨#[], #[], []⟩).heap.modify 1 (fillO (cellsD Rows.laid_unicode_utf8_first))).modify 2 (fillO (cellsD Rows.laid_unicode_utf8_acceptRanges)) }
def wArgs : Array Value := #[.agg #[.slice none 0 0, .slice none 0 0, .int .i64 0, .bool false, .int .i64 0, .int .i64 0, .int .i64 0, .int .i64 0, .int .i64 0, .int .i64 0, .slice none 0 0, .slice none 0 0]]
def laidL : List (String × DataW Unit) := [("unicode/utf8.acceptRanges", Rows.laid_unicode_utf8_acceptRanges), ("unicode/utf8.first", Rows.laid_unicode_utf8_first)]
theorem laid_met (os : Os) : laidMet Tryz.prog laidL ((laidWorld os).forCall (fun _ _ => 0) ⟨#[], wArgs, []⟩).memory :=
  laidMet_of_run3 8 (by kernel_rfl) (by kernel_rfl) (by kernel_rfl)
def wData {H : Type} : List (DataW H) := [.agg [.agg [.nil, .nil, .lit (.int .i64 0), .lit (.bool false)], .agg [.lit (.int .i64 0), .lit (.int .i64 0), .lit (.int .i64 0), .lit (.int .i64 0)], .lit (.int .i64 0), .lit (.int .i64 0), .nil, .nil]]
theorem reads (os : Os) {H : Type} (enc : TypeId × Value → H) : ∃ places, DataW.whole enc Tryz.prog ((laidWorld os).forCall (fun _ _ => 0) ⟨#[], wArgs, []⟩).memory [30] [] false wArgs.toList 8 = some (wData, [], places) :=
  ⟨[], by kernel_rfl⟩
end Go.VS
