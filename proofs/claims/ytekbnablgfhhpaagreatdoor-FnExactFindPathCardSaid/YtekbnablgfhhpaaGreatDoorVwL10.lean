/-
  The law of ObjectsOf.
-/
import Derived.Test.YtekbnablgfhhpaaGreatDoorB5
import Derived.Test.YtekbnablgfhhpaaGreatDoorB6
set_option linter.all false
namespace Go.VS
set_option linter.unusedSimpArgs false
set_option maxRecDepth 8000
attribute [-simp] isLeaf

theorem objOut_len {p : Pr} {l : List Int} (e : objOut p = .ok l) : l.length ≤ 256 := by
  unfold objOut objF at e
  split at e
  · split at e
    · cases e
    · have := (gathF_ok _ _ _ _ e).2
      have dk : dIn p.root ≤ 1 := by unfold dIn; split <;> omega
      rw [un_nil] at this
      simp only [List.length_nil] at this
      omega
  · cases e
set_option maxHeartbeats 4000000 in
theorem objLaw (n : N4) (p : Pr) (h : p.big) (K : Out → Prop) : Call prog 180 ⟨[.agg (prR n p)], [], []⟩ K = K (.b true, [], []) := by
  refine Call_det ?_ K
  rw [Call_sp (p := prog) (f := 180) rfl _ _ _ rfl (by decide)]
  have e0 := fun K => szPager_call n p h 1048576 (by decide) (by decide) K
  by_cases c0 : (p.tot : Int) ≤ 1048576
  · obtain ⟨sm, hl⟩ := Pr.sm_of c0
    have m0 : minus 1048576 p.tot = 1048576 - p.tot := if_pos c0
    rw [m0] at e0
    have c1 : ¬ (1048576 : Int) - p.tot < 0 := by omega
    have e1 := fun K => toPager_call n p sm K
    have e2 := fun K => sObjectsOf_call false p sm K
    have e3 := fun K => ObjectsOf_call false p sm K
    have e4 := fun K => eqPager_call false false p sm K
    obtain ⟨j, hj, e5⟩ := markPager_call p 1 (by omega) (by omega)
    have c2 : ¬ (j : Int) < 0 := by omega
    cases ok : objOut p with
    | error c =>
      rw [ok, gOut] at e2 e3
      have e6 : ∀ K, Call prog 7 ⟨[.view true 1 [], .view true 1 []], [], []⟩ K = K (.b true, [], []) := fun K => eqInt64S_call true true [] (by unfold lim; simp) K
      have e7 := fun K => markInt64S_nil 1 K
      have e8 : ∀ K, Call prog 10 ⟨[.view true 1 [], .i .i64 1], [], []⟩ K = K (.i .i64 1, [], []) := fun K => heldInt64S_call true 0 1 (by unfold lim; omega) (by omega) (by omega) K
      simp only [prR, prW, prRows, prC, Tag_eq, Int.natCast_one] at e0 e1 e2 e3 e4 e5
      simp -implicitDefEqProofs [prR, e0, e1, e2, e3, e4, e5, e6, e7, e8, c1, c2]
    | ok l =>
      have wl := objOut_len ok
      rw [ok, gOut] at e2 e3
      have e6 := fun K => eqInt64S_call false false l (by unfold lim; omega) K
      have e7 := fun K => markInt64S_call l 1 (by unfold lim; omega) (by omega) (by omega) K
      have e8 := fun K => heldInt64S_call false l.length 1 (by unfold lim; omega) (by omega) (by omega) K
      have hT : List.take l.length (List.map (V.i .i64) (marks 1 l.length)) = List.map (V.i .i64) (marks 1 l.length) := List.take_of_length_le (by simp)
      have c4 : ¬ (1 : Int) + l.length < 0 := by omega
      simp only [prR, prW, prRows, prC, Tag_eq, Int.natCast_one, rowI] at e0 e1 e2 e3 e4 e5 e7
      simp -implicitDefEqProofs [prR, e0, e1, e2, e3, e4, e5, e6, e7, e8, c1, c2, c4, hT]
  · have m0 : minus 1048576 p.tot = -1 := if_neg c0
    rw [m0] at e0
    simp only [prR] at e0
    simp -implicitDefEqProofs [prR, e0]
end Go.VS
