import Derived.Test.YtmmbgajolgbhnaaGreatDoorVzB1
import Derived.Test.YtmmbgajolgbhnaaGreatDoorVzB2
import Derived.Test.YtmmbgajolgbhnaaGreatDoorVxP
set_option linter.all false
namespace Go.VS
open Go Go.Proofs Go.Proofs.YtmmbgajolgbhnaaGreatDoor Go.ChangeShapes Go.WideShapes Go.ChangeAt Go.RowKit
set_option maxRecDepth 100000
theorem shB : srAs Tryz.prog tyT 8 [27, 27, 9, 4] = some [(true, .rc 0 9), (true, .rc 0 9), (false, .st), (false, .bo)] := by kernel_rfl
theorem rdRB : ∀ t, t ∈ [27, 27, 9, 4] → Tryz.prog.readableRec t = true ∧ t < Tryz.prog.types.size := by
  intro t ht
  simp only [List.mem_cons, List.not_mem_nil, or_false] at ht
  rcases ht with rfl | rfl | rfl | rfl <;> exact ⟨by kernel_rfl, of_decide_eq_true (by kernel_rfl)⟩
theorem lawB : ∀ us, HasAR tyE [(true, .rc 0 9), (true, .rc 0 9), (false, .st), (false, .bo)] us → ∀ K : Out → Prop, Call prog 613 ⟨us, [], []⟩ K = K (.b true, [], []) := by
  rintro us ⟨m1, c1, w1, h1, ⟨m2, c2, w2, h2, ⟨m3, c3, w3, ⟨x3, e3, _⟩, ⟨m4, c4, w4, ⟨x4, e4⟩, hz, q4⟩, q3⟩, q2⟩, q1⟩ K
  subst q1
  subst q2
  subst q3
  subst q4
  subst e3
  subst e4
  rw [show w4 = [] from hz]
  obtain ⟨t1, b1, rfl⟩ := hasTy m1 c1 h1.2
  rw [Ty.c_q]
  obtain ⟨t2, b2, rfl⟩ := hasTy m2 c2 h2.2
  rw [Ty.c_q]
  exact cbLaw _ _ t1 t2 b1 b2 x3 x4 K
def wArgsB : Array Value := #[wType, wType, .string .empty, .bool false]
theorem laid_metB (os : Os) : laidMet Tryz.prog laidL ((laidWorld os).forCall (fun _ _ => 0) ⟨#[], wArgsB, []⟩).memory :=
  laidMet_of_run3 8 (by kernel_rfl) (by kernel_rfl) (by kernel_rfl)
theorem readsB (os : Os) {H : Type} (enc : TypeId × Value → H) : ∃ places, DataW.whole enc Tryz.prog ((laidWorld os).forCall (fun _ _ => 0) ⟨#[], wArgsB, []⟩).memory [27, 27, 9, 4] [] false wArgsB.toList 8 = some ([dType, dType, .lit (.string []), .lit (.bool false)], [], places) :=
  ⟨[], by kernel_rfl⟩
end Go.VS
namespace Go.Proofs.YtmmbgajolgbhnaaGreatDoor.fnExactConvertBytes
open Go Go.VS Go.Proofs Go.ChangeShapes Go.WideShapes Go.ChangeAt Go.RowKit
set_option maxRecDepth 100000
theorem lifted (os : Os) (started : os.Started) (H : Type) (enc : TypeId × Value → H) (F : Stop.Interp) :
    ReturnsInHanded {} Tryz.checked os 4 .any ((OpenSpec.ofChange Rows.fnExactConvertBytesSpec).preRow enc Tryz.prog Tryz.f4 Rows.fnExactConvertBytesRow.domain false Rows.fnExactConvertBytesRow.laid) (((OpenSpec.ofChange Rows.fnExactConvertBytesSpec).at F).post enc Tryz.prog Tryz.f4 false true false false) := by
  obtain ⟨places, hx⟩ := readsB os enc
  refine returnsInHanded_of_row (C := Tryz.checked) (s := OpenSpec.ofChange Rows.fnExactConvertBytesSpec) own started (by kernel_rfl) Tryz.func4
    (witness_row_at (enc := enc) (C := Tryz.checked) false (laidWorld os) wArgsB rfl (by kernel_rfl) (by kernel_rfl) (by kernel_rfl)
      (OpenSpec.preRow_of_cond 8 hx (by kernel_rfl) (fun k hk => by cases hk) (by kernel_rfl) (laid_metB os))) ?_
  intro W base args ds gs before hval hW _ _ _ hL hS _
  exact anj shB (k := 613) (m := 4) rfl Tryz.call4 Tryz.params4 rfl rfl (fun ds h => by
    rcases ds with _ | ⟨d1, _ | ⟨d2, _ | ⟨d3, _ | ⟨d4, _ | ⟨_, _⟩⟩⟩⟩⟩ <;> first | rfl | simp at h) rdRB lawB hval hW hS
theorem said : Rows.FnExactConvertBytesSaid :=
  OpenClaim.holds_of_cond 4 Tryz.f4 rfl rfl rfl rfl rfl rfl rfl ⟨rfl, rfl, rfl, rfl, rfl⟩ rfl rfl rfl rfl rfl (by kernel_rfl) Tryz.func4 closed
    (of_decide_eq_true (by kernel_rfl)) (by unfold Func.isWrapper; first | (rw [if_pos (by decide +kernel)]; kernel_rfl) | (rw [if_neg (by decide +kernel)]; exact ⟨rfl, rfl⟩))
    (fun os started H enc _ F => by rw [OpenClaim.pre_eq_preRow]; exact lifted os started H enc F)
theorem plain (f : FuncId) (fn : Func) (hf : Tryz.pinned.checked.prog.funcNamed "loop.example/g00904/laws.FnExactConvertBytes" = some f) (hfn : Tryz.pinned.checked.prog.funcs[f]? = some fn) :
    true = Tryz.pinned.checked.prog.looks [] ∧ ∀ (j : Nat) t, fn.params[j]? = some t → Tryz.pinned.checked.prog.wantsStandIn t = false := by
  obtain rfl : f = 4 := Option.some.inj ((show Tryz.prog.funcNamed "loop.example/g00904/laws.FnExactConvertBytes" = some 4 by kernel_rfl).symm.trans hf) |>.symm
  obtain rfl : fn = Tryz.f4 := (Option.some.inj (Tryz.func4.symm.trans hfn)).symm
  refine ⟨looksT, fun j t ht => ?_⟩
  rw [Tryz.params4] at ht
  have ht : t = 27 ∨ t = 27 ∨ t = 9 ∨ t = 4 := by simpa using Array.mem_of_getElem? ht
  rcases ht with rfl | rfl | rfl | rfl
  · exact (show Tryz.prog.wantsStandIn 27 = false by kernel_rfl)
  · exact (show Tryz.prog.wantsStandIn 27 = false by kernel_rfl)
  · exact (show Tryz.prog.wantsStandIn 9 = false by kernel_rfl)
  · exact (show Tryz.prog.wantsStandIn 4 = false by kernel_rfl)
theorem card : Rows.FnExactConvertBytesCardSaid :=
  Claim7.holds_tied_plain_at .later [] _ _ _ _ said (fun _ h => by cases h) (by kernel_rfl) (fun _ h => by cases h) fnExactConvertBytes_row_tie rfl ⟨rfl, rfl⟩ (by kernel_rfl) rfl plain goes
end Go.Proofs.YtmmbgajolgbhnaaGreatDoor.fnExactConvertBytes
