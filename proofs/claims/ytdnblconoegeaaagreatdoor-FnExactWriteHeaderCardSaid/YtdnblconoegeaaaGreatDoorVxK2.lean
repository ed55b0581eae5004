/-
  slices.Clone: as the evaluator tells it.
-/
import Derived.Test.YtdnblconoegeaaaGreatDoorVxK
import Derived.Test.YtdnblconoegeaaaGreatDoorVxC
set_option linter.all false
namespace Go.VS
open Go Go.Proofs Go.RowKit
set_option linter.unusedSimpArgs false

theorem good_clone {W : World} {z : Nat} {te : TypeId} {f : FuncId} (hz0 : 0 < z) (hcall : ∀ args w, (callFunc f args).run Tryz.prog w = .ok (.enter f args) w)
    (hC : ∀ (ad : Addr) (n c : Nat) (news : List Value) (w : World), news.length = n * z → n ≤ lim → (∀ j u, news[j]? = some u → w.cell? (ad.add j) = some u) → (∀ u ∈ news, u.oneCell' = true) → Calls Tryz.prog f #[.slice (some ad) n c] w fun e w' => ∃ v', e = .returned v' ∧ w'.ownsRow w.heap.size te z v' n news ∧ v' ≠ .slice none 0 0 ∧ Below w.heap.size w w')
    (hN : ∀ (n c : Nat) (w : World), Calls Tryz.prog f #[.slice none n c] w fun e w' => e = .returned (.slice none 0 0) ∧ w' = w)
    (s : St) (o : Out) (he : nClone z s = some o) : Good Tryz.prog phi ⟨W.heap.size, Tryz.prog⟩ (oldJ W) false f s o := by
  unfold nClone at he
  split at he
  · cases he
    refine ⟨Nat.le_refl _, rfl, rfl, fun cx a w h hJ _ S => ?_⟩
    obtain ⟨y, rfl, v1⟩ := act1 S
    have v1 := v1.nil_inv
    subst v1
    refine .inl ⟨hcall _ _, (hN 0 0 w).mono ?_⟩
    rintro e w' ⟨rfl, rfl⟩
    exact ⟨_, rfl, h, S.slot1 (.k (.l (.pl .nil)))⟩
  · rename_i q z' xs
    split at he
    · rename_i hcond
      obtain ⟨rfl, hlim, hbt⟩ := hcond
      cases he
      refine ⟨Nat.le_refl _, rfl, rfl, fun cx a w h hJ hG S => ?_⟩
      have hG' : ∀ id x, cx.G0 id = some x → False := fun id x hx => by have := (hG id x hx).1; cases this
      obtain ⟨y, rfl, v1⟩ := act1 S
      obtain ⟨A, cap, g, rfl, hcap, hz, ha, hv⟩ := v1.view_inv
      have hfl : (flat xs).length = xs.length * z' := flat_length hz
      cases A with
      | none =>
        have hx : xs = [] := by
          refine List.eq_nil_of_length_eq_zero (Nat.eq_zero_of_not_pos fun h0 => ?_)
          obtain ⟨b, o, e, _⟩ := ha (by rw [hfl]; exact Nat.mul_pos h0 hz0)
          cases e
        subst hx
        refine .inl ⟨hcall _ _, (hN _ _ w).mono ?_⟩
        rintro e w' ⟨rfl, rfl⟩
        obtain ⟨h1, S1⟩ := Sim.rowNone (s := ⟨[.view q z' []], [], []⟩) S z'
        obtain ⟨h2, S2⟩ := Sim.only (r := []) S1 (.inl rfl) hG'
        exact ⟨_, rfl, h2, S2⟩
      | some ad =>
        have hcell : ∀ j, j < xs.length * z' → w.cell? (ad.add j) = some (g j) ∧ (g j).oneCell' = true := fun j hj => by
          obtain ⟨b, o, e, hk⟩ := ha (by rw [hfl]; omega)
          cases e
          obtain ⟨_, k2, k3⟩ := hk j (by rw [hfl]; exact hj)
          rw [Addr.add_lit]
          exact ⟨k2, k3⟩
        have hget : ∀ j u, ((List.range (xs.length * z')).map g)[j]? = some u → j < xs.length * z' ∧ u = g j := fun j u hj => by
          rw [List.getElem?_map] at hj
          obtain ⟨k, hk, rfl⟩ := Option.map_eq_some_iff.1 hj
          have hjl := (List.getElem?_eq_some_iff.1 hk).1
          rw [List.length_range] at hjl
          rw [List.getElem?_range hjl] at hk
          cases hk
          exact ⟨hjl, rfl⟩
        refine .inl ⟨hcall _ _, (hC ad xs.length cap ((List.range (xs.length * z')).map g) w (by simp) hlim (fun j u hj => ?_) (fun u hu => ?_)).mono ?_⟩
        · obtain ⟨k1, rfl⟩ := hget j u hj
          exact (hcell j k1).1
        · obtain ⟨j, hj, rfl⟩ := List.mem_map.1 hu
          exact (hcell j (List.mem_range.1 hj)).2
        rintro e w' ⟨v', rfl, hown, hnn, B⟩
        rcases hown.2 with ⟨e1, _⟩ | ⟨b, cap', cur, rfl, hbg, hh, hnc, hcm, hcs, htk⟩
        · exact absurd e1 hnn
        have S1 := S.below B
        have F := S.freshBlk B hbg (heap_lt hh)
        have kept : KeptR h.Rp w w' := fun b o hR => B.cell (p := ⟨b, o, none⟩) (S.rb b o (S.pl b o hR))
        obtain ⟨h1, S2⟩ := Sim.rowFree (s := ⟨[.view q z' xs], [], []⟩) (es := xs) (z := z') (cap := cap') (cap' := cap') S1 ⟨F.r, F.o, F.c, F.n, heap_lt hh⟩ hh hz hcs hnc (Nat.le_refl _) hcm (fun n => noBt_mem hbt n) (fun o _ => by simp) (fun j v hj => by
          have hlt : j < xs.length * z' := by rw [← hfl]; exact (List.getElem?_eq_some_iff.1 hj).1
          have ec : cur.getD j undef = g j := by
            have h1 : (cur.toList.take (xs.length * z'))[j]? = some (g j) := by
              rw [htk, List.getElem?_map, List.getElem?_range hlt]; rfl
            rw [List.getElem?_take_of_lt hlt, Array.getElem?_toList] at h1
            rw [arr_getD, h1]; rfl
          rw [ec]
          exact ⟨(hv j v hj).mono kept (fun _ _ x => x), (hcell j hlt).2⟩) (fun _ => rfl)
        obtain ⟨h2, S3⟩ := Sim.only (r := []) S2 (.inl rfl) hG'
        exact ⟨_, rfl, h2, S3⟩
    · cases he
  · cases he

theorem good_ClonePage {W : World} (s : St) (o : Out) (he : nClone 2 s = some o) : Good Tryz.prog phi ⟨W.heap.size, Tryz.prog⟩ (oldJ W) false 200 s o :=
  good_clone (by decide) Tryz.call200 (fun ad n c news w h1 h2 h3 h4 => Tryz.clone200 ad n c news w h1 (by unfold lim at h2; omega) h3 h4) (fun n c w => Tryz.cloneNil200 n c w) s o he
theorem good_ClonePut {W : World} (s : St) (o : Out) (he : nClone 2 s = some o) : Good Tryz.prog phi ⟨W.heap.size, Tryz.prog⟩ (oldJ W) false 263 s o :=
  good_clone (by decide) Tryz.call263 (fun ad n c news w h1 h2 h3 h4 => Tryz.clone263 ad n c news w h1 (by unfold lim at h2; omega) h3 h4) (fun n c w => Tryz.cloneNil263 n c w) s o he
theorem good_CloneStr {W : World} (s : St) (o : Out) (he : nClone 1 s = some o) : Good Tryz.prog phi ⟨W.heap.size, Tryz.prog⟩ (oldJ W) false 262 s o :=
  good_clone (by decide) Tryz.call262 (fun ad n c news w h1 h2 h3 h4 => Tryz.clone262 ad n c news w h1 (by unfold lim at h2; omega) h3 h4) (fun n c w => Tryz.cloneNil262 n c w) s o he
end Go.VS
