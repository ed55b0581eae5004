import Derived.Test.YtdnblconoegeaaaGreatDoorVyF1
import Derived.Test.YtdnblconoegeaaaGreatDoorVyF2
import Derived.Test.YtdnblconoegeaaaGreatDoorVwY5
set_option linter.all false
namespace Go.VS
open Go Go.Proofs Go.Proofs.YtdnblconoegeaaaGreatDoor Go.ChangeShapes Go.WideShapes Go.ChangeAt Go.RowKit
set_option maxRecDepth 100000
theorem shF : shAs Tryz.prog 8 [30, 2] = some [(true, prSh), (false, .nu .i64)] := by kernel_rfl
theorem rdRF : ∀ t, t ∈ [30, 2] → Tryz.prog.readableRec t = true ∧ t < Tryz.prog.types.size := by
  intro t ht
  simp only [List.mem_cons, List.not_mem_nil, or_false] at ht
  rcases ht with rfl | rfl <;> exact ⟨by kernel_rfl, of_decide_eq_true (by kernel_rfl)⟩
theorem lawF : ∀ us, HasA [(true, prSh), (false, .nu .i64)] us → ∀ K : Out → Prop, Call prog 404 ⟨us, [], []⟩ K = K (.b true, [], []) := by
  rintro us ⟨c1, w1, h1, ⟨c2, w2, ⟨x2, e2, _⟩, hz, q2⟩, q1⟩ K
  subst q1
  subst q2
  subst e2
  rw [show w2 = [] from hz]
  obtain ⟨n1, p1, b1, rfl⟩ := hasPager h1
  exact poLaw n1 p1 b1 x2 K
def wArgsF : Array Value := #[wPager, .int .i64 0]
theorem laid_metF (os : Os) : laidMet Tryz.prog laidL ((laidWorld os).forCall (fun _ _ => 0) ⟨#[], wArgsF, []⟩).memory :=
  laidMet_of_run3 8 (by kernel_rfl) (by kernel_rfl) (by kernel_rfl)
theorem readsF (os : Os) {H : Type} (enc : TypeId × Value → H) : ∃ places, DataW.whole enc Tryz.prog ((laidWorld os).forCall (fun _ _ => 0) ⟨#[], wArgsF, []⟩).memory [30, 2] [] false wArgsF.toList 8 = some ([dPager, .lit (.int .i64 0)], [], places) :=
  ⟨[], by kernel_rfl⟩
end Go.VS
namespace Go.Proofs.YtdnblconoegeaaaGreatDoor.fnExactPathOf
open Go Go.VS Go.Proofs Go.ChangeShapes Go.WideShapes Go.ChangeAt Go.RowKit
set_option maxRecDepth 100000
theorem lifted (os : Os) (started : os.Started) (H : Type) (enc : TypeId × Value → H) (F : Stop.Interp) :
    ReturnsInHanded {} Tryz.checked os 7 .any ((OpenSpec.ofChange Rows.fnExactPathOfSpec).preRow enc Tryz.prog Tryz.f7 Rows.fnExactPathOfRow.domain false Rows.fnExactPathOfRow.laid) (((OpenSpec.ofChange Rows.fnExactPathOfSpec).at F).post enc Tryz.prog Tryz.f7 false true false false) := by
  obtain ⟨places, hx⟩ := readsF os enc
  refine returnsInHanded_of_row (C := Tryz.checked) (s := OpenSpec.ofChange Rows.fnExactPathOfSpec) own started (by kernel_rfl) Tryz.func7
    (witness_row_at (enc := enc) (C := Tryz.checked) false (laidWorld os) wArgsF rfl (by kernel_rfl) (by kernel_rfl) (by kernel_rfl)
      (OpenSpec.preRow_of_cond 8 hx (by kernel_rfl) (fun k hk => by cases hk) (by kernel_rfl) (laid_metF os))) ?_
  intro W base args ds gs before hval hW _ _ _ hL hS _
  exact aum shF (k := 404) (m := 7) rfl Tryz.call7 Tryz.params7 rfl rfl (fun ds h => by
    rcases ds with _ | ⟨d1, _ | ⟨d2, _ | ⟨_, _⟩⟩⟩ <;> first | rfl | simp at h) rdRF lawF hval hW hS
theorem said : Rows.FnExactPathOfSaid :=
  OpenClaim.holds_of_cond 7 Tryz.f7 rfl rfl rfl rfl rfl rfl rfl ⟨rfl, rfl, rfl, rfl, rfl⟩ rfl rfl rfl rfl rfl (by kernel_rfl) Tryz.func7 closed
    (of_decide_eq_true (by kernel_rfl)) (by unfold Func.isWrapper; first | (rw [if_pos (by decide +kernel)]; kernel_rfl) | (rw [if_neg (by decide +kernel)]; exact ⟨rfl, rfl⟩))
    (fun os started H enc _ F => by rw [OpenClaim.pre_eq_preRow]; exact lifted os started H enc F)
theorem plain (f : FuncId) (fn : Func) (hf : Tryz.pinned.checked.prog.funcNamed "loop.example/g00904/laws.FnExactPathOf" = some f) (hfn : Tryz.pinned.checked.prog.funcs[f]? = some fn) :
    false = Tryz.pinned.checked.prog.looks [] ∧ ∀ (j : Nat) t, fn.params[j]? = some t → Tryz.pinned.checked.prog.wantsStandIn t = false := by
  obtain rfl : f = 7 := Option.some.inj ((show Tryz.prog.funcNamed "loop.example/g00904/laws.FnExactPathOf" = some 7 by kernel_rfl).symm.trans hf) |>.symm
  obtain rfl : fn = Tryz.f7 := (Option.some.inj (Tryz.func7.symm.trans hfn)).symm
  refine ⟨looksT, fun j t ht => ?_⟩
  rw [Tryz.params7] at ht
  have ht : t = 30 ∨ t = 2 := by simpa using Array.mem_of_getElem? ht
  rcases ht with rfl | rfl
  · exact (show Tryz.prog.wantsStandIn 30 = false by kernel_rfl)
  · exact (show Tryz.prog.wantsStandIn 2 = false by kernel_rfl)
theorem card : Rows.FnExactPathOfCardSaid :=
  Claim7.holds_tied_plain_at .later [] _ _ _ _ said (fun _ h => by cases h) (by kernel_rfl) (fun _ h => by cases h) fnExactPathOf_row_tie rfl ⟨rfl, rfl⟩ (by kernel_rfl) rfl plain goes
end Go.Proofs.YtdnblconoegeaaaGreatDoor.fnExactPathOf
