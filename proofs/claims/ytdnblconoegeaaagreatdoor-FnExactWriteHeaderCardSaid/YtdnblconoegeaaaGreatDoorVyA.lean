/-
  FnExactWriteHeader: for every pager, every number and every header, the program's WriteHeader answers what the reference's does. No condition.
-/
import Derived.Test.YtdnblconoegeaaaGreatDoorVyA1
import Derived.Test.YtdnblconoegeaaaGreatDoorVyA2
set_option linter.all false
namespace Go.VS
open Go Go.Proofs Go.Proofs.YtdnblconoegeaaaGreatDoor Go.ChangeShapes Go.WideShapes Go.ChangeAt Go.RowKit
set_option maxRecDepth 100000

theorem shA : shAs Tryz.prog 8 [30, 2, 33] = some [(true, prSh), (false, .nu .i64), (true, hdSh)] := by kernel_rfl
theorem rdA : ∀ t, t ∈ [30, 2, 33] → Tryz.prog.readableRec t = true ∧ t < Tryz.prog.types.size := by
  intro t ht
  simp only [List.mem_cons, List.not_mem_nil, or_false] at ht
  rcases ht with rfl | rfl | rfl <;> exact ⟨by kernel_rfl, of_decide_eq_true (by kernel_rfl)⟩
theorem lawA : ∀ us, HasA [(true, prSh), (false, .nu .i64), (true, hdSh)] us → ∀ K : Out → Prop, Call prog 400 ⟨us, [], []⟩ K = K (.b true, [], []) := by
  rintro us ⟨c1, w1, h1, ⟨c2, w2, ⟨x, e2, _⟩, ⟨c3, w3, h3, h4, e6⟩, e5⟩, e4⟩ K
  subst e4; subst e5; subst e6; subst e2
  rw [show w3 = [] from h4]
  obtain ⟨n, p, hp, rfl⟩ := hasPager h1
  obtain ⟨n2, hh, hb, rfl⟩ := hasHeader h3
  exact writeHeaderLaw n p hp x n2 hh hb K
def wArgsA : Array Value := #[wPager, .int .i64 0, .agg #[.int .i64 0, .int .i64 0, .slice none 0 0]]
theorem laid_metA (os : Os) : laidMet Tryz.prog laidL ((laidWorld os).forCall (fun _ _ => 0) ⟨#[], wArgsA, []⟩).memory :=
  laidMet_of_run3 8 (by kernel_rfl) (by kernel_rfl) (by kernel_rfl)
theorem readsA (os : Os) {H : Type} (enc : TypeId × Value → H) : ∃ places, DataW.whole enc Tryz.prog ((laidWorld os).forCall (fun _ _ => 0) ⟨#[], wArgsA, []⟩).memory [30, 2, 33] [] false wArgsA.toList 8 = some ([dPager, .lit (.int .i64 0), .agg [.lit (.int .i64 0), .lit (.int .i64 0), .nil]], [], places) :=
  ⟨[], by kernel_rfl⟩
end Go.VS
namespace Go.Proofs.YtdnblconoegeaaaGreatDoor.fnExactWriteHeader
open Go Go.VS Go.Proofs Go.ChangeShapes Go.WideShapes Go.ChangeAt Go.RowKit
set_option maxRecDepth 100000

theorem lifted (os : Os) (started : os.Started) (H : Type) (enc : TypeId × Value → H) (F : Stop.Interp) :
    ReturnsInHanded {} Tryz.checked os 3 .any ((OpenSpec.ofChange Rows.fnExactWriteHeaderSpec).preRow enc Tryz.prog Tryz.f3 Rows.fnExactWriteHeaderRow.domain false Rows.fnExactWriteHeaderRow.laid) (((OpenSpec.ofChange Rows.fnExactWriteHeaderSpec).at F).post enc Tryz.prog Tryz.f3 false true false false) := by
  obtain ⟨places, hx⟩ := readsA os enc
  refine returnsInHanded_of_row (C := Tryz.checked) (s := OpenSpec.ofChange Rows.fnExactWriteHeaderSpec) own started (by kernel_rfl) Tryz.func3
    (witness_row_at (enc := enc) (C := Tryz.checked) false (laidWorld os) wArgsA rfl (by kernel_rfl) (by kernel_rfl) (by kernel_rfl)
      (OpenSpec.preRow_of_cond 8 hx (by kernel_rfl) (fun k hk => by cases hk) (by kernel_rfl) (laid_metA os))) ?_
  intro W base args ds gs before hval hW _ _ _ hL hS _
  exact any_law shA (k := 400) (m := 3) rfl Tryz.call3 Tryz.params3 rfl rfl (fun ds h => by
    rcases ds with _ | ⟨d, _ | ⟨e, _ | ⟨f, _ | ⟨_, _⟩⟩⟩⟩ <;> first | rfl | simp at h) rdA lawA hval hW hS

theorem said : Rows.FnExactWriteHeaderSaid :=
  OpenClaim.holds_of_cond 3 Tryz.f3 rfl rfl rfl rfl rfl rfl rfl ⟨rfl, rfl, rfl, rfl, rfl⟩ rfl rfl rfl rfl rfl (by kernel_rfl) Tryz.func3 closed
    (of_decide_eq_true (by kernel_rfl)) (by unfold Func.isWrapper; first | (rw [if_pos (by decide +kernel)]; kernel_rfl) | (rw [if_neg (by decide +kernel)]; exact ⟨rfl, rfl⟩))
    (fun os started H enc _ F => by rw [OpenClaim.pre_eq_preRow]; exact lifted os started H enc F)

theorem plain (f : FuncId) (fn : Func) (hf : Tryz.pinned.checked.prog.funcNamed "loop.example/g00904/laws.FnExactWriteHeader" = some f) (hfn : Tryz.pinned.checked.prog.funcs[f]? = some fn) :
    false = Tryz.pinned.checked.prog.looks [] ∧ ∀ (j : Nat) t, fn.params[j]? = some t → Tryz.pinned.checked.prog.wantsStandIn t = false := by
  obtain rfl : f = 3 := Option.some.inj ((show Tryz.prog.funcNamed "loop.example/g00904/laws.FnExactWriteHeader" = some 3 by kernel_rfl).symm.trans hf) |>.symm
  obtain rfl : fn = Tryz.f3 := (Option.some.inj (Tryz.func3.symm.trans hfn)).symm
  refine ⟨looksT, fun j t ht => ?_⟩
  rw [Tryz.params3] at ht
  have ht : t = 30 ∨ t = 2 ∨ t = 33 := by simpa using Array.mem_of_getElem? ht
  rcases ht with rfl | rfl | rfl
  · exact (show Tryz.prog.wantsStandIn 30 = false by kernel_rfl)
  · exact (show Tryz.prog.wantsStandIn 2 = false by kernel_rfl)
  · exact (show Tryz.prog.wantsStandIn 33 = false by kernel_rfl)

theorem card : Rows.FnExactWriteHeaderCardSaid :=
  Claim7.holds_tied_plain_at .later [] _ _ _ _ said (fun _ h => by cases h) (by kernel_rfl) (fun _ h => by cases h) fnExactWriteHeader_row_tie rfl ⟨rfl, rfl⟩ (by kernel_rfl) rfl plain goes
end Go.Proofs.YtdnblconoegeaaaGreatDoor.fnExactWriteHeader
