/-
  slices.Grow of nil. The laying below: lay-plain's text.
-/
import Derived.Shelf.Spec.SlicesGrow
import Derived.Test.YtekbnablgfhhpaaGreatDoorVxU2
set_option linter.all false
set_option linter.unusedVariables false
namespace Go.Proofs
open Go.Shelf Go.RowKit Go.Lib
def Tryz.l131_ren : Go.Shelf.Ren := ⟨fun | 4 => 131 | n => n, fun | 22 => 22 | 25 => 9 | 3 => 3 | 4 => 4 | 9 => 9 | 20 => 20 | 0 => 0 | n => n, fun | n => n⟩
theorem Tryz.l131 : Go.Proofs.Lays8.n4 Tryz.prog Tryz.l131_ren := {
  mixed := by kernel_rfl
  f4 := ⟨Tryz.f131.name, by decide, Tryz.func131.trans (congrArg some (by kernel_rfl))⟩
  t0 := Tryz.underlying0
  a0 := Tryz.isAgg0
  z0 := Tryz.sizeOf0
  v0 := Tryz.zeroValue0
  t3 := Tryz.underlying3
  a3 := Tryz.isAgg3
  z3 := Tryz.sizeOf3
  v3 := Tryz.zeroValue3
  t4 := Tryz.underlying4
  a4 := Tryz.isAgg4
  z4 := Tryz.sizeOf4
  v4 := Tryz.zeroValue4
  t9 := Tryz.underlying9
  a9 := Tryz.isAgg9
  z9 := Tryz.sizeOf9
  v9 := Tryz.zeroValue9
  t20 := Tryz.underlying20
  a20 := Tryz.isAgg20
  z20 := Tryz.sizeOf20
  v20 := Tryz.zeroValue20
  t22 := Tryz.underlying22
  a22 := Tryz.isAgg22
  z22 := Tryz.sizeOf22
  v22 := Tryz.zeroValue22 }
end Go.Proofs
namespace Go.VS
open Go Go.Proofs Go.RowKit
set_option linter.unusedSimpArgs false
theorem good_Grow {W : World} (s : St) (o : Out) (he : nGrow s = some o) : Good Tryz.prog phi ⟨W.heap.size, Tryz.prog⟩ (oldJ W) false 131 s o := by
  unfold nGrow at he
  split at he
  · rename_i n
    split at he
    · rename_i h0
      subst h0
      cases he
      refine ⟨Nat.le_refl _, rfl, rfl, fun cx a w h hJ _ S => ?_⟩
      obtain ⟨y, y2, rfl, v1, v2⟩ := act2 S
      have v1 := v1.nil_inv; subst v1
      have v2 := v2.i_inv; subst v2
      refine .inl ⟨Tryz.call131 _ _, (Any8.slices_Grow_room Tryz.l131 none 0 0 0 w (Nat.le_refl _) (by omega) (by omega) (by omega)).mono ?_⟩
      rintro e w' ⟨rfl, rfl⟩
      exact ⟨_, rfl, h, S.slot1 (.k (.l (.pl .nil)))⟩
    · split at he
      · rename_i h0 h1
        cases he
        refine ⟨Nat.le_refl _, rfl, rfl, fun cx a w h hJ _ S => ?_⟩
        obtain ⟨y, y2, rfl, v1, v2⟩ := act2 S
        have v1 := v1.nil_inv; subst v1
        have v2 := v2.i_inv; subst v2
        obtain ⟨m, rfl⟩ : ∃ m : Nat, n = m := ⟨n.toNat, by omega⟩
        obtain ⟨i0, hi, hz0, hz1, hz2⟩ := info_parts Tryz.lays2n16.i9
        have hlim : m ≤ 1073741824 := by have := h1.2; unfold lim at this; omega
        have hc := Any8.slices_Grow_grow Tryz.l131 i0 (.string { data := #[] }) hi hz0 (by rw [hz1]; decide) none 0 0 m [] w (Nat.le_refl _) (by omega) (by rw [hz2]; omega) (by omega) (by simp) (fun _ => rfl) (fun a e => by cases e)
        refine .inl ⟨Tryz.call131 _ _, hc.mono ?_⟩
        rintro e w' ⟨rfl, rfl⟩
        refine ⟨_, rfl, ?_⟩
        have S1 := S.below (w' := w.drew) ((Below.refl _ w).drew)
        have hg := grownCap_ge w (0 + m) 0 9
        have h9 : Tryz.l131_ren.t 25 = 9 := rfl
        obtain ⟨h', S'⟩ := S1.newRow (d := 0) (z := 1) (cap := grownCap w (0 + m) 0 9) (es := [])
          (cc := ([] : List Value).toArray ++ Builtin.zeroCells (Value.string { data := #[] }).cells (0 + m - 0) ++ Builtin.zeroCells (Value.string { data := #[] }).cells (grownCap w (0 + m) 0 9 - (0 + m)))
          9 (0, 0) (fun x hx => by cases hx) (by
            simp only [Array.size_append, size_zeroCells, List.size_toArray, List.length_nil, Value.cells, Array.size_singleton]
            simp only [Nat.zero_add, List.length_singleton, Nat.mul_one] at hg ⊢; omega) (Nat.zero_le _) (grownCap_le_maxLen w _ _ _ (by unfold maxLen; omega)) (fun n hn => by cases hn) (fun o _ => by omega) (fun j v hj => by simp [flat_nil] at hj)
        refine ⟨h', S'.slot1 ?_⟩
        have := S'.t 0 _ rfl
        simpa [Act.put, h9] using this
      · cases he
  · cases he
end Go.VS
