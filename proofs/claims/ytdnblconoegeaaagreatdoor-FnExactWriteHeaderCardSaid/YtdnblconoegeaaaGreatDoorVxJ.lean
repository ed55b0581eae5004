/-
  Library functions that the evaluator does not run itself: what the machine does at them. strings.Split.
-/
import Derived.Test.YtdnblconoegeaaaGreatDoorVxM
import Derived.Test.YtdnblconoegeaaaGreatDoorVxSh
import Derived.Test.YtdnblconoegeaaaGreatDoorA4
import Derived.Test.YtdnblconoegeaaaGreatDoorB1
set_option linter.all false
namespace Go.VS
open Go Go.Proofs
set_option linter.unusedSimpArgs false

section
variable {φ : Nat → FuncId} {N : Env} {c : Cx} {a a' : Act} {w : World} {h : Gh} {t t' : List V} {m : List (List V)} {r : List Rw}
/-- Other slots over the same memory. -/
theorem Sim.slots (S : Sim φ N c ⟨t, m, r⟩ a w h) (h1 : a'.tmps.size = t'.length) (h2 : a'.defers = []) (h3 : ∀ j v, t'[j]? = some v → VOk φ w h v (a'.tmps.getD j undef)) : Sim φ N c ⟨t', m, r⟩ a' w h :=
  { S with nt := h1, df := h2, t := h3 }
theorem Sim.slot1 {v : V} {y : Value} (S : Sim φ N c ⟨t, m, r⟩ a w h) (h3 : VOk φ w h v y) : Sim φ N c ⟨[v], m, r⟩ ⟨#[y], []⟩ w h :=
  S.slots rfl rfl fun j u hj => by
    cases j with
    | zero => cases hj; exact h3
    | succ j => simp at hj
theorem act1 {x : V} (S : Sim φ N c ⟨[x], m, r⟩ a w h) : ∃ y, a = ⟨#[y], []⟩ ∧ VOk φ w h x y := by
  obtain ⟨⟨l⟩, ds⟩ := a
  have hs : l.length = 1 := S.nt
  obtain ⟨y, rfl⟩ := List.length_eq_one_iff.1 hs
  have hd : ds = [] := S.df
  subst hd
  exact ⟨y, rfl, S.t 0 x rfl⟩
theorem act2 {x x2 : V} (S : Sim φ N c ⟨[x, x2], m, r⟩ a w h) : ∃ y y2, a = ⟨#[y, y2], []⟩ ∧ VOk φ w h x y ∧ VOk φ w h x2 y2 := by
  obtain ⟨⟨l⟩, ds⟩ := a
  have hs : l.length = 2 := S.nt
  rcases l with _ | ⟨y, _ | ⟨y2, _ | ⟨_, _⟩⟩⟩ <;> simp at hs
  have hd : ds = [] := S.df
  subst hd
  exact ⟨y, y2, rfl, S.t 0 x rfl, S.t 1 x2 rfl⟩
end

/-! ### strings.Split -/
section
open Go.Lib
theorem index_one (c : UInt8) : ∀ s : List UInt8, (index s [c] = -1 ∧ splitB c s = [s]) ∨ ∃ i : Nat, index s [c] = i ∧ i < s.length ∧ splitB c s = s.take i :: splitB c (s.drop (i + 1))
  | [] => .inl ⟨rfl, rfl⟩
  | x :: s => by
    by_cases hx : x = c
    · subst hx
      refine .inr ⟨0, ?_, by simp, ?_⟩
      · unfold index; simp
      · rw [splitB, if_pos rfl]; rfl
    · have hp : ([c].isPrefixOf (x :: s)) = false := by
        show (c == x && List.isPrefixOf [] s) = false
        rw [beq_eq_false_iff_ne.2 (Ne.symm hx)]; rfl
      rcases index_one c s with ⟨h1, h2⟩ | ⟨i, h1, h2, h3⟩
      · refine .inl ⟨?_, ?_⟩
        · unfold index; rw [hp, h1]; rfl
        · rw [splitB, if_neg hx, h2]
      · refine .inr ⟨i + 1, ?_, by simp; omega, ?_⟩
        · unfold index
          rw [hp, h1, if_neg (by simp), if_neg (by simp)]; rfl
        · rw [splitB, if_neg hx, h3]; simp
theorem count_one (c : UInt8) (n : Nat) : ∀ s : List UInt8, s.length ≤ n → splitK [c] 0 (count s [c]) s = splitB c s ∧ (splitB c s).length = count s [c] + 1 := by
  induction n with
  | zero =>
    intro s hs
    have : s = [] := List.eq_nil_of_length_eq_zero (by omega)
    subst this
    exact ⟨rfl, rfl⟩
  | succ n ih =>
    intro s hs
    rcases index_one c s with ⟨h1, h2⟩ | ⟨i, h1, h2, h3⟩
    · rw [count_miss h1, h2]; exact ⟨rfl, rfl⟩
    · rw [count_hit (by simp) h1, h3]
      obtain ⟨k1, k2⟩ := ih (s.drop (i + 1)) (by simp; omega)
      have e : ([c] : List UInt8).length = 1 := rfl
      rw [e, Nat.add_comm 1, List.length_cons, k2]
      refine ⟨?_, rfl⟩
      rw [splitK, h1, if_neg (by simp), Nat.add_zero]
      simp only [Int.toNat_natCast]
      rw [e, k1]
end

theorem good_Split {W : World} {mm : Int} (hm : W.cell? ⟨0, 0, none⟩ = some (.int .i64 mm)) (s : St) (o : Out) (he : nSplit s = some o) : Good Tryz.prog phi ⟨W.heap.size, Tryz.prog⟩ (oldJ W) false 218 s o := by
  unfold nSplit at he
  split at he
  · rename_i l c
    split at he
    · rename_i hl
      cases he
      refine ⟨Nat.le_refl _, rfl, rfl, fun cx a w h hJ _ S => ?_⟩
      obtain ⟨y, y2, rfl, v1, v2⟩ := act2 S
      obtain ⟨A, rfl, hA⟩ := v1.s_inv
      obtain ⟨C, rfl, hC⟩ := v2.s_inv
      have hw : w.cell? ⟨0, 0, none⟩ = some (.int .i64 mm) := by
        have := (S.kept (oldJ_keep Tryz.prog W) hJ).2.2.1 0 (World.block_lt_of_cell? W _ hm)
        unfold World.cell? at hm ⊢
        rw [show w.heap[(⟨0, 0, none⟩ : Addr).block]? = W.heap[(⟨0, 0, none⟩ : Addr).block]? from this]
        exact hm
      have hs : A.size = l.length := by rw [← hA]; rfl
      have hC1 : C.size = 1 := by have : C.data.toList.length = 1 := by rw [hC]; rfl
                                  exact this
      refine .inl ⟨Tryz.call218 _ _, (Tryz.strings_Split A C mm w (by rw [hs]; have := hl.2; unfold lim at this; omega) hw (by omega)).mono ?_⟩
      rintro e w' ⟨rfl, rfl⟩
      refine ⟨_, rfl, ?_⟩
      obtain ⟨k1, k2⟩ := count_one c _ l (Nat.le_refl _)
      have hcount : Lib.countB A C = Lib.count l [c] := by unfold Lib.countB; rw [hA, hC]
      have hdata := Lib.splitB_data C 0 (Lib.countB A C) A
      rw [hcount, hA, hC, k1] at hdata
      have hlen : (Lib.splitB C 0 (Lib.countB A C) A).length = (splitB c l).length := by rw [← hdata, List.length_map, hcount]
      obtain ⟨h', S'⟩ := S.newRow (d := 0) (z := 1) (cap := Lib.countB A C + 1) (es := (splitB c l).map V.s) (cc := ((Lib.splitB C 0 (Lib.countB A C) A).map Value.string).toArray) 9 (0, 0)
        (fun x hx => by obtain ⟨u, _, rfl⟩ := List.mem_map.1 hx; rfl) (by rw [List.size_toArray, List.length_map, hlen, k2, hcount, Nat.mul_one]) (by rw [List.length_map, k2, hcount]; exact Nat.le_refl _) (by rw [hcount, ← k2]; have := hl.1; unfold lim at this; unfold maxLen; omega) (fun n hn => by obtain ⟨u, _, e⟩ := List.mem_map.1 hn; cases e) (fun o _ => by omega) (fun j v hj => by
          have hf : flat ((splitB c l).map V.s) = (splitB c l).map V.s := by
            unfold flat
            induction (splitB c l) with
            | nil => rfl
            | cons x xs ih => simp only [List.map_cons, List.flatMap_cons, V.cells, ih, List.singleton_append]
          rw [hf, List.getElem?_map, Option.map_eq_some_iff] at hj
          obtain ⟨u, hu, rfl⟩ := hj
          rw [← hdata, List.getElem?_map, Option.map_eq_some_iff, ← hcount] at hu
          obtain ⟨B, hB, rfl⟩ := hu
          have e : (((Lib.splitB C 0 (Lib.countB A C) A).map Value.string).toArray).getD j undef = .string B := by
            rw [arr_getD, List.getElem?_toArray, List.getElem?_map, hB]; rfl
          rw [e]
          exact ⟨.s B, rfl⟩)
      refine ⟨h', S'.slot1 ?_⟩
      have := S'.t 0 _ rfl
      simp only [List.length_map] at this ⊢
      rw [k2, ← hcount] at this ⊢
      simpa [Act.put] using this
    · cases he
  · cases he
end Go.VS
