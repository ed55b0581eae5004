/-
  spec's own copy of a disk, strings.Repeat: as the evaluator tells them.
-/
import Derived.Test.YtdnblconoegeaaaGreatDoorVxK2
import Derived.Test.YtdnblconoegeaaaGreatDoorVxO
set_option linter.all false
namespace Go.VS
open Go Go.Proofs Go.RowKit
set_option linter.unusedSimpArgs false
set_option maxRecDepth 100000

theorem own_mixed : Tryz.prog.follows .mixedOrders = true := by kernel_rfl
theorem strs_noBt : ∀ {vs : List V} {l : List Bs}, strs vs = some l → noBt vs = true := fun h => by
  rw [strs_inv h]; exact noBt_map_s _
theorem good_Own {W : World} (s : St) (o : Out) (he : nOwnDisk s = some o) : Good Tryz.prog phi ⟨W.heap.size, Tryz.prog⟩ (oldJ W) false 102 s o := by
  unfold nOwnDisk at he
  split at he
  · rename_i q1 bs q2 ps n b
    split at he
    · rename_i bs' ps' hb hp
      split at he
      · rename_i hl
        cases he
        have hb1 := strs_inv hb
        have hp1 := pgs_inv hp
        have l1 : bs.length ≤ lim := by rw [hb1, List.length_map]; exact hl.1
        have l2 : ps.length ≤ lim := by rw [hp1, List.length_map]; exact hl.2
        have nb := strs_noBt hb
        exact good_alts (φ := phi) (f := 214) (fn := Tryz.f102) (np := 1) (nt := 24) (rs := [.c 2 4 true]) (is0 := own0) (is1 := own1) (C := [0, 5, 6]) (alts := ownAlts) tiok (oldJ_keep _ _) own_mixed Tryz.call102 Tryz.func102 rfl rfl
          (by decide +kernel) (by decide +kernel) (by decide +kernel) (by decide +kernel) (by decide +kernel) (by decide +kernel) (by decide +kernel) (by decide +kernel) rfl fun p hp => by
            simp only [ownAlts, List.mem_cons, List.not_mem_nil, or_false] at hp
            rcases hp with rfl | rfl | rfl
            · exact ownA_call q1 q2 bs ps n b l1 l2 nb
            · exact ownB_call q1 q2 bs ps n b l1 l2 nb
            · exact ownC_call q1 q2 bs ps n b l1 l2 nb
      · cases he
    · cases he
  · cases he

theorem repeatL_flatten (l : List UInt8) : ∀ c, Lib.repeatL l c = (List.replicate c l).flatten
  | 0 => rfl
  | c + 1 => by rw [Lib.repeatL, List.replicate_succ, List.flatten_cons, repeatL_flatten l c]
theorem good_Repeat {W : World} (s : St) (o : Out) (he : nRepeat s = some o) : Good Tryz.prog phi ⟨W.heap.size, Tryz.prog⟩ (oldJ W) false 319 s o := by
  unfold nRepeat at he
  split at he
  · rename_i l n
    split at he
    · rename_i hc
      cases he
      refine ⟨Nat.le_refl _, rfl, rfl, fun cx a w h hJ _ S => ?_⟩
      obtain ⟨y, y2, rfl, v1, v2⟩ := act2 S
      obtain ⟨A, rfl, hA⟩ := v1.s_inv
      have v2 := v2.i_inv; subst v2
      obtain ⟨c, rfl⟩ : ∃ c : Nat, n = c := ⟨n.toNat, by omega⟩
      have hs : A.size = l.length := by rw [← hA]; rfl
      obtain ⟨h0, h1, h2⟩ := hc
      rw [Int.toNat_natCast] at h2
      refine .inl ⟨Tryz.call319 _ _, (Tryz.strings_Repeat A c w (by unfold lim at h1; omega) (by rw [hs]; unfold lim at h2; omega)).mono ?_⟩
      rintro e w' ⟨rfl, B⟩
      refine ⟨_, rfl, h, (S.below B).slot1 ?_⟩
      rw [Int.toNat_natCast, repeatL_flatten, hA]
      exact .k (.l (.pl (.s ⟨_⟩)))
    · cases he
  · cases he
end Go.VS
