import Derived.Test.YtdnblconoegeaaaGreatDoorVyE1
import Derived.Test.YtdnblconoegeaaaGreatDoorVyE2
import Derived.Test.YtdnblconoegeaaaGreatDoorVxP4
set_option linter.all false
namespace Go.VS
open Go Go.Proofs Go.Proofs.YtdnblconoegeaaaGreatDoor Go.ChangeShapes Go.WideShapes Go.ChangeAt Go.RowKit
set_option maxRecDepth 100000
theorem shE : shAs Tryz.prog 8 [71] = some [(true, shlSh)] := by kernel_rfl
theorem rdRE : ∀ t, t ∈ [71] → Tryz.prog.readableRec t = true ∧ t < Tryz.prog.types.size := by
  intro t ht
  simp only [List.mem_cons, List.not_mem_nil, or_false] at ht
  rcases ht with rfl <;> exact ⟨by kernel_rfl, of_decide_eq_true (by kernel_rfl)⟩
theorem lawE : ∀ us, HasA [(true, shlSh)] us → ∀ K : Out → Prop, Call prog 406 ⟨us, [], []⟩ K = K (.b true, [], []) := by
  rintro us ⟨c1, w1, h1, hz, q1⟩ K
  subst q1
  rw [show w1 = [] from hz]
  obtain ⟨n1, p1, m1, l1, b1, a1, s1, rfl⟩ := hasShell h1
  exact shellLaw n1 p1 b1 m1 l1 a1 s1 K
def wArgsE : Array Value := #[.agg #[.slice none 0 0, .slice none 0 0, .int .i64 0, .bool false, .int .i64 0, .int .i64 0, .int .i64 0, .int .i64 0, .int .i64 0, .int .i64 0, .slice none 0 0, .slice none 0 0, .slice none 0 0]]
theorem laid_metE (os : Os) : laidMet Tryz.prog laidL ((laidWorld os).forCall (fun _ _ => 0) ⟨#[], wArgsE, []⟩).memory :=
  laidMet_of_run3 8 (by kernel_rfl) (by kernel_rfl) (by kernel_rfl)
theorem readsE (os : Os) {H : Type} (enc : TypeId × Value → H) : ∃ places, DataW.whole enc Tryz.prog ((laidWorld os).forCall (fun _ _ => 0) ⟨#[], wArgsE, []⟩).memory [71] [] false wArgsE.toList 8 = some ([.agg [.agg [dPager], .nil]], [], places) :=
  ⟨[], by kernel_rfl⟩
end Go.VS
namespace Go.Proofs.YtdnblconoegeaaaGreatDoor.fnExactValidShell
open Go Go.VS Go.Proofs Go.ChangeShapes Go.WideShapes Go.ChangeAt Go.RowKit
set_option maxRecDepth 100000
theorem lifted (os : Os) (started : os.Started) (H : Type) (enc : TypeId × Value → H) (F : Stop.Interp) :
    ReturnsInHanded {} Tryz.checked os 9 .any ((OpenSpec.ofChange Rows.fnExactValidShellSpec).preRow enc Tryz.prog Tryz.f9 Rows.fnExactValidShellRow.domain false Rows.fnExactValidShellRow.laid) (((OpenSpec.ofChange Rows.fnExactValidShellSpec).at F).post enc Tryz.prog Tryz.f9 false true false false) := by
  obtain ⟨places, hx⟩ := readsE os enc
  refine returnsInHanded_of_row (C := Tryz.checked) (s := OpenSpec.ofChange Rows.fnExactValidShellSpec) own started (by kernel_rfl) Tryz.func9
    (witness_row_at (enc := enc) (C := Tryz.checked) false (laidWorld os) wArgsE rfl (by kernel_rfl) (by kernel_rfl) (by kernel_rfl)
      (OpenSpec.preRow_of_cond 8 hx (by kernel_rfl) (fun k hk => by cases hk) (by kernel_rfl) (laid_metE os))) ?_
  intro W base args ds gs before hval hW _ _ _ hL hS _
  exact aut shE (k := 406) (m := 9) rfl Tryz.call9 Tryz.params9 rfl rfl (fun ds h => by
    rcases ds with _ | ⟨d1, _ | ⟨_, _⟩⟩ <;> first | rfl | simp at h) rdRE lawE hval hW hS
theorem said : Rows.FnExactValidShellSaid :=
  OpenClaim.holds_of_cond 9 Tryz.f9 rfl rfl rfl rfl rfl rfl rfl ⟨rfl, rfl, rfl, rfl, rfl⟩ rfl rfl rfl rfl rfl (by kernel_rfl) Tryz.func9 closed
    (of_decide_eq_true (by kernel_rfl)) (by unfold Func.isWrapper; first | (rw [if_pos (by decide +kernel)]; kernel_rfl) | (rw [if_neg (by decide +kernel)]; exact ⟨rfl, rfl⟩))
    (fun os started H enc _ F => by rw [OpenClaim.pre_eq_preRow]; exact lifted os started H enc F)
theorem plain (f : FuncId) (fn : Func) (hf : Tryz.pinned.checked.prog.funcNamed "loop.example/g00904/laws.FnExactValidShell" = some f) (hfn : Tryz.pinned.checked.prog.funcs[f]? = some fn) :
    false = Tryz.pinned.checked.prog.looks [] ∧ ∀ (j : Nat) t, fn.params[j]? = some t → Tryz.pinned.checked.prog.wantsStandIn t = false := by
  obtain rfl : f = 9 := Option.some.inj ((show Tryz.prog.funcNamed "loop.example/g00904/laws.FnExactValidShell" = some 9 by kernel_rfl).symm.trans hf) |>.symm
  obtain rfl : fn = Tryz.f9 := (Option.some.inj (Tryz.func9.symm.trans hfn)).symm
  refine ⟨looksT, fun j t ht => ?_⟩
  rw [Tryz.params9] at ht
  have ht : t = 71 := by simpa using Array.mem_of_getElem? ht
  rcases ht with rfl
  · exact (show Tryz.prog.wantsStandIn 71 = false by kernel_rfl)
theorem card : Rows.FnExactValidShellCardSaid :=
  Claim7.holds_tied_plain_at .later [] _ _ _ _ said (fun _ h => by cases h) (by kernel_rfl) (fun _ h => by cases h) fnExactValidShell_row_tie rfl ⟨rfl, rfl⟩ (by kernel_rfl) rfl plain goes
end Go.Proofs.YtdnblconoegeaaaGreatDoor.fnExactValidShell
