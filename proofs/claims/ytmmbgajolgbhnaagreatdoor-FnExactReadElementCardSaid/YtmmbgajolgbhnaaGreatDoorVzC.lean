import Derived.Test.YtmmbgajolgbhnaaGreatDoorVzC1
import Derived.Test.YtmmbgajolgbhnaaGreatDoorVzC2
import Derived.Test.YtmmbgajolgbhnaaGreatDoorVxP
import Derived.Test.YtmmbgajolgbhnaaGreatDoorVxQ3
import Derived.Test.YtmmbgajolgbhnaaGreatDoorE2
set_option linter.all false
namespace Go.VS
open Go Go.Proofs Go.Proofs.YtmmbgajolgbhnaaGreatDoor Go.ChangeShapes Go.WideShapes Go.ChangeAt Go.RowKit
set_option maxRecDepth 100000
theorem shRC : srAs Tryz.prog tyT 8 [27, 9] = some [(true, .rc 0 9), (false, .st)] := by kernel_rfl
theorem rdRC : ∀ t, t ∈ [27, 9] → Tryz.prog.readableRec t = true ∧ t < Tryz.prog.types.size := by
  intro t ht
  simp only [List.mem_cons, List.not_mem_nil, or_false] at ht
  rcases ht with rfl | rfl <;> exact ⟨by kernel_rfl, of_decide_eq_true (by kernel_rfl)⟩
theorem lawC : ∀ us, HasAR tyE [(true, .rc 0 9), (false, .st)] us → ∀ K : Out → Prop, Call prog 616 ⟨us, [], []⟩ K = K (.b true, [], []) := by
  rintro us ⟨m1, c1, w1, h1, ⟨m2, c2, w2, ⟨x2, e2, _⟩, hz, q2⟩, q1⟩ K
  subst q1
  subst q2
  subst e2
  rw [show w2 = [] from hz]
  obtain ⟨t1, b1, rfl⟩ := hasTy m1 c1 h1.2
  rw [Ty.c_q]
  exact reLaw _ t1 b1 x2 K
def wArgsC : Array Value := #[wType, .string .empty]
theorem laid_metC (os : Os) : laidMet Tryz.prog laidL7 ((laidWorld7 os).forCall (fun _ _ => 0) ⟨#[], wArgsC, []⟩).memory :=
  laidMet_of_run3 8 (by kernel_rfl) (by kernel_rfl) (by kernel_rfl)
theorem readsC (os : Os) {H : Type} (enc : TypeId × Value → H) : ∃ places, DataW.whole enc Tryz.prog ((laidWorld7 os).forCall (fun _ _ => 0) ⟨#[], wArgsC, []⟩).memory [27, 9] [] false wArgsC.toList 8 = some ([dType, .lit (.string [])], [], places) :=
  ⟨[], by kernel_rfl⟩
end Go.VS
namespace Go.Proofs.YtmmbgajolgbhnaaGreatDoor.fnExactReadElement
open Go Go.VS Go.Proofs Go.ChangeShapes Go.WideShapes Go.ChangeAt Go.RowKit
set_option maxRecDepth 100000
theorem lifted (os : Os) (started : os.Started) (H : Type) (enc : TypeId × Value → H) (F : Stop.Interp) :
    ReturnsInHanded {} Tryz.checked os 7 .any ((OpenSpec.ofChange Rows.fnExactReadElementSpec).preRow enc Tryz.prog Tryz.f7 Rows.fnExactReadElementRow.domain false Rows.fnExactReadElementRow.laid) (((OpenSpec.ofChange Rows.fnExactReadElementSpec).at F).post enc Tryz.prog Tryz.f7 false true false false) := by
  obtain ⟨places, hx⟩ := readsC os enc
  refine returnsInHanded_of_row (C := Tryz.checked) (s := OpenSpec.ofChange Rows.fnExactReadElementSpec) own started (by kernel_rfl) Tryz.func7
    (witness_row_at (enc := enc) (C := Tryz.checked) false (laidWorld7 os) wArgsC rfl (by kernel_rfl) (by kernel_rfl) (by kernel_rfl)
      (OpenSpec.preRow_of_cond 8 hx (by kernel_rfl) (fun k hk => by cases hk) (by kernel_rfl) (laid_metC os))) ?_
  intro W base args ds gs before hval hW _ _ _ hL hS _
  obtain ⟨mm, hm⟩ := maxLenCell hS
  exact asz shRC (k := 616) (m := 7) rfl Tryz.call7 Tryz.params7 rfl rfl (fun ds h => by
    rcases ds with _ | ⟨d1, _ | ⟨d2, _ | ⟨_, _⟩⟩⟩ <;> first | rfl | simp at h) rdRC (matched hm (atm hL)) lawC hval hW hS
theorem said : Rows.FnExactReadElementSaid :=
  OpenClaim.holds_of_cond 7 Tryz.f7 rfl rfl rfl rfl rfl rfl rfl ⟨rfl, rfl, rfl, rfl, rfl⟩ rfl rfl rfl rfl rfl (by kernel_rfl) Tryz.func7 closed
    (of_decide_eq_true (by kernel_rfl)) (by unfold Func.isWrapper; first | (rw [if_pos (by decide +kernel)]; kernel_rfl) | (rw [if_neg (by decide +kernel)]; exact ⟨rfl, rfl⟩))
    (fun os started H enc _ F => by rw [OpenClaim.pre_eq_preRow]; exact lifted os started H enc F)
theorem plain (f : FuncId) (fn : Func) (hf : Tryz.pinned.checked.prog.funcNamed "loop.example/g00904/laws.FnExactReadElement" = some f) (hfn : Tryz.pinned.checked.prog.funcs[f]? = some fn) :
    true = Tryz.pinned.checked.prog.looks [] ∧ ∀ (j : Nat) t, fn.params[j]? = some t → Tryz.pinned.checked.prog.wantsStandIn t = false := by
  obtain rfl : f = 7 := Option.some.inj ((show Tryz.prog.funcNamed "loop.example/g00904/laws.FnExactReadElement" = some 7 by kernel_rfl).symm.trans hf) |>.symm
  obtain rfl : fn = Tryz.f7 := (Option.some.inj (Tryz.func7.symm.trans hfn)).symm
  refine ⟨looksT, fun j t ht => ?_⟩
  rw [Tryz.params7] at ht
  have ht : t = 27 ∨ t = 9 := by simpa using Array.mem_of_getElem? ht
  rcases ht with rfl | rfl
  · exact (show Tryz.prog.wantsStandIn 27 = false by kernel_rfl)
  · exact (show Tryz.prog.wantsStandIn 9 = false by kernel_rfl)
theorem card : Rows.FnExactReadElementCardSaid :=
  Claim7.holds_tied_plain_at .later [] _ _ _ _ said (fun _ h => by cases h) (by kernel_rfl) (fun _ h => by cases h) fnExactReadElement_row_tie rfl ⟨rfl, rfl⟩ (by kernel_rfl) rfl plain goes
end Go.Proofs.YtmmbgajolgbhnaaGreatDoor.fnExactReadElement
