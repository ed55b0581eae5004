import Derived.Test.YtmmbgajolgbhnaaGreatDoorVzD1
import Derived.Test.YtmmbgajolgbhnaaGreatDoorVzD2
import Derived.Test.YtmmbgajolgbhnaaGreatDoorVxY
import Derived.Test.YtmmbgajolgbhnaaGreatDoorVxQ3
import Derived.Test.YtmmbgajolgbhnaaGreatDoorE3
set_option linter.all false
namespace Go.VS
open Go Go.Proofs Go.Proofs.YtmmbgajolgbhnaaGreatDoor Go.ChangeShapes Go.WideShapes Go.ChangeAt Go.RowKit
set_option maxRecDepth 100000
theorem shRD : srAs Tryz.prog tyT 8 [38, 38] = some [(false, .sl false (.nu .u8)), (false, .sl false (.nu .u8))] := by kernel_rfl
theorem rdRD : ∀ t, t ∈ [38, 38] → Tryz.prog.readableRec t = true ∧ t < Tryz.prog.types.size := by
  intro t ht
  simp only [List.mem_cons, List.not_mem_nil, or_false] at ht
  rcases ht with rfl | rfl <;> exact ⟨by kernel_rfl, of_decide_eq_true (by kernel_rfl)⟩
theorem lawD : ∀ us, HasAR tyE [(false, .sl false (.nu .u8)), (false, .sl false (.nu .u8))] us → ∀ K : Out → Prop, Call prog 617 ⟨us, [], []⟩ K = K (.b true, [], []) := by
  rintro us ⟨m1, c1, w1, h1, ⟨m2, c2, w2, h2, hz, q2⟩, q1⟩ K
  subst q1
  subst q2
  rw [show w2 = [] from hz]
  obtain ⟨n1, l1, b1⟩ := hasBytes h1
  rw [b1]
  obtain ⟨n2, l2, b2⟩ := hasBytes h2
  rw [b2]
  exact elLaw n1 l1 n2 l2 K
def wArgsD : Array Value := #[.slice none 0 0, .slice none 0 0]
theorem laid_metD (os : Os) : laidMet Tryz.prog laidL7 ((laidWorld7 os).forCall (fun _ _ => 0) ⟨#[], wArgsD, []⟩).memory :=
  laidMet_of_run3 8 (by kernel_rfl) (by kernel_rfl) (by kernel_rfl)
theorem readsD (os : Os) {H : Type} (enc : TypeId × Value → H) : ∃ places, DataW.whole enc Tryz.prog ((laidWorld7 os).forCall (fun _ _ => 0) ⟨#[], wArgsD, []⟩).memory [38, 38] [] false wArgsD.toList 8 = some ([.nil, .nil], [], places) :=
  ⟨[], by kernel_rfl⟩
end Go.VS
namespace Go.Proofs.YtmmbgajolgbhnaaGreatDoor.fnElements
open Go Go.VS Go.Proofs Go.ChangeShapes Go.WideShapes Go.ChangeAt Go.RowKit
set_option maxRecDepth 100000
theorem lifted (os : Os) (started : os.Started) (H : Type) (enc : TypeId × Value → H) (F : Stop.Interp) :
    ReturnsInHanded {} Tryz.checked os 8 .any ((OpenSpec.ofChange Rows.fnElementsSpec).preRow enc Tryz.prog Tryz.f8 Rows.fnElementsRow.domain false Rows.fnElementsRow.laid) (((OpenSpec.ofChange Rows.fnElementsSpec).at F).post enc Tryz.prog Tryz.f8 false true false false) := by
  obtain ⟨places, hx⟩ := readsD os enc
  refine returnsInHanded_of_row (C := Tryz.checked) (s := OpenSpec.ofChange Rows.fnElementsSpec) own started (by kernel_rfl) Tryz.func8
    (witness_row_at (enc := enc) (C := Tryz.checked) false (laidWorld7 os) wArgsD rfl (by kernel_rfl) (by kernel_rfl) (by kernel_rfl)
      (OpenSpec.preRow_of_cond 8 hx (by kernel_rfl) (fun k hk => by cases hk) (by kernel_rfl) (laid_metD os))) ?_
  intro W base args ds gs before hval hW _ _ _ hL hS _
  obtain ⟨mm, hm⟩ := maxLenCell hS
  exact as7 shRD (k := 617) (m := 8) rfl Tryz.call8 Tryz.params8 rfl rfl (fun ds h => by
    rcases ds with _ | ⟨d1, _ | ⟨d2, _ | ⟨_, _⟩⟩⟩ <;> first | rfl | simp at h) rdRD (matched hm (atw hL)) lawD hval hW hS
theorem said : Rows.FnElementsSaid :=
  OpenClaim.holds_of_cond 8 Tryz.f8 rfl rfl rfl rfl rfl rfl rfl ⟨rfl, rfl, rfl, rfl, rfl⟩ rfl rfl rfl rfl rfl (by kernel_rfl) Tryz.func8 closed
    (of_decide_eq_true (by kernel_rfl)) (by unfold Func.isWrapper; first | (rw [if_pos (by decide +kernel)]; kernel_rfl) | (rw [if_neg (by decide +kernel)]; exact ⟨rfl, rfl⟩))
    (fun os started H enc _ F => by rw [OpenClaim.pre_eq_preRow]; exact lifted os started H enc F)
theorem plain (f : FuncId) (fn : Func) (hf : Tryz.pinned.checked.prog.funcNamed "loop.example/g00904/laws.FnElements" = some f) (hfn : Tryz.pinned.checked.prog.funcs[f]? = some fn) :
    true = Tryz.pinned.checked.prog.looks [] ∧ ∀ (j : Nat) t, fn.params[j]? = some t → Tryz.pinned.checked.prog.wantsStandIn t = false := by
  obtain rfl : f = 8 := Option.some.inj ((show Tryz.prog.funcNamed "loop.example/g00904/laws.FnElements" = some 8 by kernel_rfl).symm.trans hf) |>.symm
  obtain rfl : fn = Tryz.f8 := (Option.some.inj (Tryz.func8.symm.trans hfn)).symm
  refine ⟨looksT, fun j t ht => ?_⟩
  rw [Tryz.params8] at ht
  have ht : t = 38 ∨ t = 38 := by simpa using Array.mem_of_getElem? ht
  rcases ht with rfl | rfl
  · exact (show Tryz.prog.wantsStandIn 38 = false by kernel_rfl)
  · exact (show Tryz.prog.wantsStandIn 38 = false by kernel_rfl)
theorem card : Rows.FnElementsCardSaid :=
  Claim7.holds_tied_plain_at .later [] _ _ _ _ said (fun _ h => by cases h) (by kernel_rfl) (fun _ h => by cases h) fnElements_row_tie rfl ⟨rfl, rfl⟩ (by kernel_rfl) rfl plain goes
end Go.Proofs.YtmmbgajolgbhnaaGreatDoor.fnElements
