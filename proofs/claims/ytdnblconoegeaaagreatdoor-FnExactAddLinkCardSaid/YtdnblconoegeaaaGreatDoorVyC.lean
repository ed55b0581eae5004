import Derived.Test.YtdnblconoegeaaaGreatDoorVyC1
import Derived.Test.YtdnblconoegeaaaGreatDoorVyC2
import Derived.Test.YtdnblconoegeaaaGreatDoorVwL14
set_option linter.all false
namespace Go.VS
open Go Go.Proofs Go.Proofs.YtdnblconoegeaaaGreatDoor Go.ChangeShapes Go.WideShapes Go.ChangeAt Go.RowKit
set_option maxRecDepth 100000
theorem shC : shAs Tryz.prog 8 [30, 2, 9, 2] = some [(true, prSh), (false, .nu .i64), (false, .st), (false, .nu .i64)] := by kernel_rfl
theorem rdR5 : ∀ t, t ∈ [30, 2, 9, 2] → Tryz.prog.readableRec t = true ∧ t < Tryz.prog.types.size := by
  intro t ht
  simp only [List.mem_cons, List.not_mem_nil, or_false] at ht
  rcases ht with rfl | rfl | rfl | rfl <;> exact ⟨by kernel_rfl, of_decide_eq_true (by kernel_rfl)⟩
theorem lawC : ∀ us, HasA [(true, prSh), (false, .nu .i64), (false, .st), (false, .nu .i64)] us → ∀ K : Out → Prop, Call prog 402 ⟨us, [], []⟩ K = K (.b true, [], []) := by
  rintro us ⟨c1, w1, h1, ⟨c2, w2, ⟨x2, e2, _⟩, ⟨c3, w3, ⟨x3, e3, _⟩, ⟨c4, w4, ⟨x4, e4, _⟩, hz, q4⟩, q3⟩, q2⟩, q1⟩ K
  subst q1
  subst q2
  subst q3
  subst q4
  subst e2
  subst e3
  subst e4
  rw [show w4 = [] from hz]
  obtain ⟨n1, p1, b1, rfl⟩ := hasPager h1
  exact hardLaw n1 p1 b1 x2 x3 x4 K
def wArgsC : Array Value := #[wPager, .int .i64 0, .string .empty, .int .i64 0]
theorem laid_metC (os : Os) : laidMet Tryz.prog laidL ((laidWorld os).forCall (fun _ _ => 0) ⟨#[], wArgsC, []⟩).memory :=
  laidMet_of_run3 8 (by kernel_rfl) (by kernel_rfl) (by kernel_rfl)
theorem readsC (os : Os) {H : Type} (enc : TypeId × Value → H) : ∃ places, DataW.whole enc Tryz.prog ((laidWorld os).forCall (fun _ _ => 0) ⟨#[], wArgsC, []⟩).memory [30, 2, 9, 2] [] false wArgsC.toList 8 = some ([dPager, .lit (.int .i64 0), .lit (.string []), .lit (.int .i64 0)], [], places) :=
  ⟨[], by kernel_rfl⟩
end Go.VS
namespace Go.Proofs.YtdnblconoegeaaaGreatDoor.fnExactAddLink
open Go Go.VS Go.Proofs Go.ChangeShapes Go.WideShapes Go.ChangeAt Go.RowKit
set_option maxRecDepth 100000
theorem lifted (os : Os) (started : os.Started) (H : Type) (enc : TypeId × Value → H) (F : Stop.Interp) :
    ReturnsInHanded {} Tryz.checked os 5 .any ((OpenSpec.ofChange Rows.fnExactAddLinkSpec).preRow enc Tryz.prog Tryz.f5 Rows.fnExactAddLinkRow.domain false Rows.fnExactAddLinkRow.laid) (((OpenSpec.ofChange Rows.fnExactAddLinkSpec).at F).post enc Tryz.prog Tryz.f5 false true false false) := by
  obtain ⟨places, hx⟩ := readsC os enc
  refine returnsInHanded_of_row (C := Tryz.checked) (s := OpenSpec.ofChange Rows.fnExactAddLinkSpec) own started (by kernel_rfl) Tryz.func5
    (witness_row_at (enc := enc) (C := Tryz.checked) false (laidWorld os) wArgsC rfl (by kernel_rfl) (by kernel_rfl) (by kernel_rfl)
      (OpenSpec.preRow_of_cond 8 hx (by kernel_rfl) (fun k hk => by cases hk) (by kernel_rfl) (laid_metC os))) ?_
  intro W base args ds gs before hval hW _ _ _ hL hS _
  exact auq shC (k := 402) (m := 5) rfl Tryz.call5 Tryz.params5 rfl rfl (fun ds h => by
    rcases ds with _ | ⟨d1, _ | ⟨d2, _ | ⟨d3, _ | ⟨d4, _ | ⟨_, _⟩⟩⟩⟩⟩ <;> first | rfl | simp at h) rdR5 lawC hval hW hS
theorem said : Rows.FnExactAddLinkSaid :=
  OpenClaim.holds_of_cond 5 Tryz.f5 rfl rfl rfl rfl rfl rfl rfl ⟨rfl, rfl, rfl, rfl, rfl⟩ rfl rfl rfl rfl rfl (by kernel_rfl) Tryz.func5 closed
    (of_decide_eq_true (by kernel_rfl)) (by unfold Func.isWrapper; first | (rw [if_pos (by decide +kernel)]; kernel_rfl) | (rw [if_neg (by decide +kernel)]; exact ⟨rfl, rfl⟩))
    (fun os started H enc _ F => by rw [OpenClaim.pre_eq_preRow]; exact lifted os started H enc F)
theorem plain (f : FuncId) (fn : Func) (hf : Tryz.pinned.checked.prog.funcNamed "loop.example/g00904/laws.FnExactAddLink" = some f) (hfn : Tryz.pinned.checked.prog.funcs[f]? = some fn) :
    false = Tryz.pinned.checked.prog.looks [] ∧ ∀ (j : Nat) t, fn.params[j]? = some t → Tryz.pinned.checked.prog.wantsStandIn t = false := by
  obtain rfl : f = 5 := Option.some.inj ((show Tryz.prog.funcNamed "loop.example/g00904/laws.FnExactAddLink" = some 5 by kernel_rfl).symm.trans hf) |>.symm
  obtain rfl : fn = Tryz.f5 := (Option.some.inj (Tryz.func5.symm.trans hfn)).symm
  refine ⟨looksT, fun j t ht => ?_⟩
  rw [Tryz.params5] at ht
  have ht : t = 30 ∨ t = 2 ∨ t = 9 ∨ t = 2 := by simpa using Array.mem_of_getElem? ht
  rcases ht with rfl | rfl | rfl | rfl
  · exact (show Tryz.prog.wantsStandIn 30 = false by kernel_rfl)
  · exact (show Tryz.prog.wantsStandIn 2 = false by kernel_rfl)
  · exact (show Tryz.prog.wantsStandIn 9 = false by kernel_rfl)
  · exact (show Tryz.prog.wantsStandIn 2 = false by kernel_rfl)
theorem card : Rows.FnExactAddLinkCardSaid :=
  Claim7.holds_tied_plain_at .later [] _ _ _ _ said (fun _ h => by cases h) (by kernel_rfl) (fun _ h => by cases h) fnExactAddLink_row_tie rfl ⟨rfl, rfl⟩ (by kernel_rfl) rfl plain goes
end Go.Proofs.YtdnblconoegeaaaGreatDoor.fnExactAddLink
