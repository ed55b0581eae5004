/-
  usedSlots: what the machine does at it, as the evaluator tells it.
-/
import Derived.Test.YtekbnablgfhhpaaGreatDoorVxJ2
import Derived.Test.YtekbnablgfhhpaaGreatDoorVxU
set_option linter.all false
namespace Go.VS
open Go Go.Proofs Go.RowKit
set_option linter.unusedSimpArgs false

theorem usedSlots_bytes : ∀ (l : List Bs) (zs : List ByteArray), zs.map (fun z => z.data.toList) = l → ((zs.filter fun x => !(x.toList == [])).length : Int) = usedSlots l := by
  intro l zs h
  subst h
  unfold usedSlots
  rw [List.filter_map, List.length_map]
  congr 2
  refine List.filter_congr fun x _ => ?_
  rw [Lib.toList_data]
  show (!(x.data.toList == [])) = !(x.data.toList.isEmpty)
  cases x.data.toList <;> rfl

theorem good_UsedSlots {W : World} (s : St) (o : Out) (he : nUsedSlots s = some o) : Good Tryz.prog phi ⟨W.heap.size, Tryz.prog⟩ (oldJ W) false 155 s o := by
  unfold nUsedSlots at he
  split at he
  · cases he
    refine ⟨Nat.le_refl _, rfl, rfl, fun cx a w h hJ _ S => ?_⟩
    obtain ⟨y, rfl, v1⟩ := act1 S
    obtain ⟨⟨cc⟩, rfl, hsz, hcc⟩ := v1.agg_inv
    rcases cc with _ | ⟨c0, _ | ⟨_, _⟩⟩ <;> simp at hsz
    have k0 := (hcc 0 _ rfl).1
    have k0 := (VOk.k k0).nil_inv
    simp [Array.getD] at k0
    subst k0
    refine .inl ⟨Tryz.call155 _ _, (Tryz.slots155 none 0 0 [] w rfl (by omega) fun e => absurd e (by omega)).mono ?_⟩
    rintro e w' ⟨rfl, B⟩
    exact ⟨_, rfl, h, (S.below B).slot1 (.k (.l (.pl (.i _ _))))⟩
  · rename_i q xs
    split at he
    · rename_i hl
      obtain ⟨l, hb, rfl⟩ := Option.map_eq_some_iff.1 he
      have hb := strs_inv hb; subst hb
      refine ⟨Nat.le_refl _, rfl, rfl, fun cx a w h hJ _ S => ?_⟩
      obtain ⟨y, rfl, v1⟩ := act1 S
      obtain ⟨⟨cc⟩, rfl, hsz, hcc⟩ := v1.agg_inv
      rcases cc with _ | ⟨c0, _ | ⟨_, _⟩⟩ <;> simp at hsz
      have k0 := (hcc 0 _ rfl).1
      obtain ⟨A, cap, f, e0, hcap, hz, ha, hv⟩ := (VOk.k k0).view_inv
      simp [Array.getD] at e0
      subst e0
      rw [List.length_map] at hl
      have hfl : (flat (l.map V.s)).length = l.length := by rw [flat_strs, List.length_map]
      let zs : List ByteArray := (List.range l.length).map fun j => match f j with | .string D => D | _ => .empty
      have hzl : zs.length = l.length := by simp [zs]
      have hzat : ∀ j (hj : j < l.length), ∃ D : ByteArray, f j = .string D ∧ D.data.toList = l[j] ∧ zs[j]? = some D := by
        intro j hj
        have p := hv j (.s l[j]) (by rw [flat_strs, List.getElem?_map, List.getElem?_eq_getElem hj]; rfl)
        obtain ⟨D, h1, h2⟩ := (VOk.k (φ := phi) (h := h) (.l (.pl p))).s_inv
        refine ⟨D, h1, h2, ?_⟩
        simp only [zs, List.getElem?_map, List.getElem?_range hj, Option.map_some, h1]
      have hzl2 : zs.map (fun z => z.data.toList) = l := by
        refine List.ext_getElem? fun j => ?_
        by_cases hj : j < l.length
        · obtain ⟨D, _, h2, h3⟩ := hzat j hj
          rw [List.getElem?_map, h3, List.getElem?_eq_getElem hj, Option.map_some, h2]
        · rw [List.getElem?_eq_none (by simp [hzl]; omega), List.getElem?_eq_none (by omega)]
      have hc := Tryz.slots155 A l.length cap zs w hzl.symm (by unfold lim at hl; omega) fun h0 => by
        obtain ⟨b, off, rfl, hc⟩ := ha (by rw [hfl]; omega)
        refine ⟨b, off, rfl, fun j hj => ?_⟩
        obtain ⟨D, h1, h2, h3⟩ := hzat j hj
        rw [(hc j (by rw [hfl]; omega)).2.1, h1, List.getD_eq_getElem?_getD, h3]; rfl
      refine .inl ⟨Tryz.call155 _ _, hc.mono ?_⟩
      rintro e w' ⟨rfl, B⟩
      rw [usedSlots_bytes l zs hzl2]
      exact ⟨_, rfl, h, (S.below B).slot1 (.k (.l (.pl (.i _ _))))⟩
    · cases he
  · cases he
end Go.VS
