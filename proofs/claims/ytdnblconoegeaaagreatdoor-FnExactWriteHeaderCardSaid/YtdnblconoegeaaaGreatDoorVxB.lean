/-
  strings.Builder's copyCheck and String: the walks.
-/
import Derived.Shelf.Strings.Builder1
import Derived.Test.YtdnblconoegeaaaGreatDoorProg
set_option linter.all false
set_option linter.unusedVariables false
namespace Go.Proofs
open Go.Shelf Go.RowKit

theorem Tryz.sizeB : ∃ j, Tryz.prog.info? 254 = some j := by
  have h : (Tryz.prog.info? 254).isSome = true := by kernel_rfl
  exact Option.isSome_iff_exists.1 h

set_option maxHeartbeats 1000000 in
set_option maxRecDepth 100000 in
theorem Tryz.copyCheck_used (b o : Nat) (w : World) (h0 : w.cell? ⟨b, o, none⟩ = some (.pointer (some ⟨b, o, none⟩))) :
    Calls Tryz.prog 271 #[.pointer (some ⟨b, o, none⟩)] w fun e w' => e = .returned (.tuple #[]) ∧ w' = w := by
  obtain ⟨j, hj⟩ := Tryz.sizeB
  go_enter Tryz.func271, Tryz.ntmps271
  go_wp2
  rw [Lib.run_neq_ptr_same w _ Tryz.underlying251 hj]
  go_wp2
  go_end0
  exact ⟨rfl, rfl⟩

set_option maxHeartbeats 1000000 in
set_option maxRecDepth 100000 in
theorem Tryz.copyCheck_fresh (b : Nat) (w : World) (h0 : w.cell? ⟨b, 0, none⟩ = some (.pointer none)) (hsh : w.shape? b = some (254, 2)) (hfz : w.frozen? ⟨b, 0, none⟩ = false) :
    Calls Tryz.prog 271 #[.pointer (some ⟨b, 0, none⟩)] w fun e w' => e = .returned (.tuple #[]) ∧ w' = w.setCell ⟨b, 0, none⟩ (.pointer (some ⟨b, 0, none⟩)) := by
  have hsz : (Tryz.prog.info? 254).map (·.size) = some 2 := by kernel_rfl
  obtain ⟨j, hj, hjs⟩ := Option.map_eq_some_iff.1 hsz
  go_enter Tryz.func271, Tryz.ntmps271
  go_wp2
  rw [Lib.run_to_unsafe w ⟨b, 0, none⟩ Tryz.underlying251 Tryz.underlying361 hj (by rw [hjs]; decide) hsh (Nat.zero_lt_succ 1)]
  simp only [Result.andThen]
  rw [Oper.upon_value]
  go_wp2
  rw [run_callFunc_extern Tryz.func316 (by kernel_rfl) (by kernel_rfl) (by kernel_rfl) (e := Extern.AbiNoEscape.same) (by kernel_rfl)]
  rw [Lib.run_noEscape]
  simp only [Result.andThen]
  rw [Oper.upon_value]
  go_wp2
  rw [Lib.run_from_unsafe w ⟨b, 0, none⟩ Tryz.underlying361 Tryz.underlying251 hj hsh (by kernel_rfl)]
  simp only [Result.andThen]
  rw [Oper.upon_value]
  go_wp2
  go_end0
  exact ⟨rfl, rfl⟩

set_option maxHeartbeats 1000000 in
set_option maxRecDepth 100000 in
theorem Tryz.String_some (b o g cap size : Nat) (l : List UInt8) (w : World) (hc : w.cell? ⟨b, o + 1, none⟩ = some (.slice (some ⟨g, 0, none⟩) l.length cap)) (h0 : l ≠ []) (hcap : l.length ≤ cap) (hsz : l.length ≤ size) (h63 : size ≤ maxLen) (hsh : w.shape? g = some (5, size))
    (hcell : ∀ j x, l[j]? = some x → w.cell? ⟨g, j, none⟩ = some (.int .u8 x.toNat)) :
    Calls Tryz.prog 206 #[.pointer (some ⟨b, o, none⟩)] w fun e w' => e = .returned (.string ⟨l.toArray⟩) ∧ w' = w.drew.freeze ⟨g, 0, none⟩ l.length := by
  have hl0 : l.length ≠ 0 := by simpa using h0
  have c1 : w.drew.cell? ⟨b, o + 1, none⟩ = some (.slice (some ⟨g, 0, none⟩) l.length cap) := hc
  have hSD : (Builtin.unsafeSliceData_ #[252] 325 #[.slice (some ⟨g, 0, none⟩) l.length cap]).run Tryz.prog w.drew = .ok (.pointer (some ⟨g, 0, none⟩)) w.drew :=
    Lib.run_unsafeSliceData_row _ _ _ _ _ _ (by omega)
  have hUS : (Builtin.unsafeString_ #[325, 3] 9 #[.pointer (some ⟨g, 0, none⟩), .int .i64 l.length]).run Tryz.prog w.drew = .ok (.string ⟨l.toArray⟩) (w.drew.freeze ⟨g, 0, none⟩ l.length) := by
    refine Lib.run_unsafeString_row w.drew 325 3 9 5 Tryz.underlying325 (by kernel_rfl) g size hsh l h0 hsz (by unfold maxLen at h63; omega) ?_
    intro j x hx
    have := hcell j x hx
    unfold Addr.add
    by_cases hj : j = 0
    · subst hj; simpa using this
    · simpa [hj] using this
  go_enter Tryz.func206, Tryz.ntmps206
  go_wp2
  go_region
  all_goals (go_wp2; go_ret; exact ⟨rfl, rfl⟩)

theorem sliceData_any (W : World) (A : Option Addr) (cap : Nat) (ts : Array TypeId) (hA : ∀ a, A = some a → ∃ sh, W.shape? a.block = some sh) (hty : Tryz.prog.underlying 325 = some (.pointer 5)) : ∃ p W', (Builtin.unsafeSliceData_ ts 325 #[.slice A 0 cap]).run Tryz.prog W = .ok (.pointer p) W' ∧ (W' = W ∨ ∃ o, W' = W.alloc o) := by
  cases A with
  | none => exact ⟨none, W, rfl, .inl rfl⟩
  | some a =>
    by_cases hc : cap = 0
    · subst hc
      obtain ⟨sh, hsh⟩ := hA a rfl
      exact ⟨_, _, Lib.run_unsafeSliceData_zero W ts 325 5 hty a 0 sh hsh, .inr ⟨_, rfl⟩⟩
    · exact ⟨some a, W, Lib.run_unsafeSliceData_row _ _ _ _ _ _ hc, .inl rfl⟩

set_option maxHeartbeats 1000000 in
set_option maxRecDepth 100000 in
theorem Tryz.String_none (b o cap : Nat) (A : Option Addr) (w : World) (hA : ∀ a, A = some a → ∃ sh, w.shape? a.block = some sh) (hb : b < w.heap.size) (hc : w.cell? ⟨b, o + 1, none⟩ = some (.slice A 0 cap)) :
    Calls Tryz.prog 206 #[.pointer (some ⟨b, o, none⟩)] w fun e w' => e = .returned (.string ⟨#[]⟩) ∧ Below w.heap.size w w' := by
  have c1 : w.drew.cell? ⟨b, o + 1, none⟩ = some (.slice A 0 cap) := hc
  obtain ⟨p, W', hSD, hW⟩ := sliceData_any w.drew A cap #[252] hA Tryz.underlying325
  have hB : Below w.heap.size w W' := by
    rcases hW with rfl | ⟨ob, rfl⟩
    · exact Below.drew (Below.refl _ w)
    · exact (Below.drew (Below.refl _ w)).alloc (Nat.le_refl _) _
  have c2 : W'.cell? ⟨b, o + 1, none⟩ = some (.slice A 0 cap) := (hB.cell (p := ⟨b, o + 1, none⟩) hb).trans hc
  have hUS : (Builtin.unsafeString_ #[325, 3] 9 #[.pointer p, .int .i64 0]).run Tryz.prog W' = .ok (.string .empty) W' := Lib.run_unsafeString_none W' _ _ _ p
  go_enter Tryz.func206, Tryz.ntmps206
  go_wp2
  go_region
  all_goals (go_wp2; go_ret; exact ⟨rfl, hB⟩)
end Go.Proofs
