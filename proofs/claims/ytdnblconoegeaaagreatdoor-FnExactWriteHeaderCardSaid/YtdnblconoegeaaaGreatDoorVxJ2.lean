/-
  Disk.read: what the machine does at it, as the evaluator tells it.
-/
import Derived.Test.YtdnblconoegeaaaGreatDoorVxJ
import Derived.Test.YtdnblconoegeaaaGreatDoorVxD
set_option linter.all false
namespace Go.VS
open Go Go.Proofs Go.RowKit
set_option linter.unusedSimpArgs false

section
variable {φ : Nat → FuncId} {N : Env} {c : Cx} {s : St} {a : Act} {w w' : World} {h : Gh}
/-- The heap has grown. -/
theorem Sim.below (S : Sim φ N c s a w h) (B : Below w.heap.size w w') : Sim φ N c s a w' h := by
  have F : Fr (fun _ _ => False) w w' := ⟨B.os, B.tape, B.output, B.size, fun b hb => .inl (B.block b hb)⟩
  have hle : h.Le h w w' := .fr F S.pl fun b o x => ⟨fun e => e, S.rb b o x⟩
  refine { S with t := fun j v hj => (S.t j v hj).mono hle, m := ?_, r := ?_, fr := S.fr.trans F (fun _ _ _ e => e.elim), rb := fun b o x => Nat.lt_of_lt_of_le (S.rb b o x) B.size }
  · intro id cs hc
    obtain ⟨b, base, hb, hk⟩ := S.m id cs hc
    exact ⟨b, base, hb, blk_keep F hle (fun _ _ _ e => e) hk⟩
  · intro id z fz xs hx
    obtain ⟨g, hg, hk⟩ := S.r id z fz xs hx
    exact ⟨g, hg, row_keep F hle (fun _ _ _ _ e => e) hk⟩
end

theorem strs_inv : ∀ {vs : List V} {l : List Bs}, strs vs = some l → vs = l.map V.s
  | [], l, e => by cases e; rfl
  | .s x :: vs, l, e => by
    simp only [strs] at e
    obtain ⟨l', h1, rfl⟩ := Option.map_eq_some_iff.1 e
    rw [strs_inv h1]; rfl
theorem pgs_inv : ∀ {vs : List V} {l : List Pg}, pgs vs = some l → vs = l.map pgV
  | [], l, e => by cases e; rfl
  | v :: vs, l, e => by
    unfold pgs at e
    split at e
    · rename_i h; cases h
    · rename_i h
      cases h
      obtain ⟨l', h1, rfl⟩ := Option.map_eq_some_iff.1 e
      rw [pgs_inv h1]; rfl
    · cases e
theorem flat_strs : ∀ l : List Bs, flat (l.map V.s) = l.map V.s
  | [] => rfl
  | x :: l => by rw [List.map_cons, flat_cons, flat_strs l]; rfl
theorem lastOf_some {k : Int} {l : List Pg} {d : Bs} (h : lastOf k l = some d) : ∃ (j : Nat) (p : Pg), l[j]? = some p ∧ p.block = k ∧ p.data = d ∧ ∀ j' p', j < j' → l[j']? = some p' → p'.block ≠ k := by
  unfold lastOf at h
  obtain ⟨p, hp, rfl⟩ := Option.map_eq_some_iff.1 h
  rw [List.find?_eq_some_iff_append] at hp
  obtain ⟨hk, l1, l2, e, hn⟩ := hp
  have e2 : l = l2.reverse ++ p :: l1.reverse := by rw [← List.reverse_reverse l, e]; simp
  refine ⟨l2.length, p, by rw [e2, List.getElem?_append_right (by simp)]; simp, by simpa using hk, rfl, fun j' p' hlt hj' => ?_⟩
  rw [e2, List.getElem?_append_right (by simp; omega)] at hj'
  simp only [List.length_reverse] at hj'
  obtain ⟨t, ht⟩ : ∃ t, j' - l2.length = t + 1 := ⟨j' - l2.length - 1, by omega⟩
  rw [ht, List.getElem?_cons_succ] at hj'
  have := hn p' (by simpa using List.mem_of_getElem? hj')
  simpa using this
theorem lastOf_none {k : Int} {l : List Pg} (h : lastOf k l = none) : ∀ (j : Nat) p, l[j]? = some p → p.block ≠ k := by
  unfold lastOf at h
  rw [Option.map_eq_none_iff, List.find?_eq_none] at h
  intro j p hj
  have := h p (by simpa using List.mem_of_getElem? hj)
  simpa using this

theorem good_Read {W : World} (s : St) (o : Out) (he : nDiskRead s = some o) : Good Tryz.prog phi ⟨W.heap.size, Tryz.prog⟩ (oldJ W) false 315 s o := by
  unfold nDiskRead at he
  split at he
  · rename_i q1 bsV q2 psV x3 x4 k
    split at he
    · rename_i bs ps hb hp
      split at he
      · rename_i hcond
        cases he
        have hb := strs_inv hb; subst hb
        have hp := pgs_inv hp; subst hp
        refine ⟨Nat.le_refl _, rfl, rfl, fun cx a w h hJ _ S => ?_⟩
        obtain ⟨y, y2, rfl, v1, v2⟩ := act2 S
        have v2 := v2.i_inv; subst v2
        obtain ⟨⟨cc⟩, rfl, hsz, hcc⟩ := v1.agg_inv
        rcases cc with _ | ⟨c0, _ | ⟨c1, _ | ⟨c2, _ | ⟨c3, _ | ⟨_, _⟩⟩⟩⟩⟩ <;> simp at hsz
        have k0 := (hcc 0 _ rfl).1
        have k1 := (hcc 1 _ rfl).1
        obtain ⟨Ab, capb, fb, e0, hcapb, hzb, hab, hvb⟩ := (VOk.k k0).view_inv
        obtain ⟨A, cap, f, e1, hcap, hz, ha, hv⟩ := (VOk.k k1).view_inv
        simp [Array.getD] at e0 e1
        subst e0; subst e1
        have hps : ∀ x, x ∈ ps.map pgV → x.cells.length = 2 := fun x hx => by obtain ⟨p, _, rfl⟩ := List.mem_map.1 hx; rfl
        have hfl : (flat (ps.map pgV)).length = ps.length * 2 := by rw [flat_length hps, List.length_map]
        have elem : ∀ (j : Nat) (p : Pg), ps[j]? = some p → f (j * 2) = .int .i64 p.block ∧ ∃ D : ByteArray, f (j * 2 + 1) = .string D ∧ D.data.toList = p.data := by
          intro j p hj
          have h1 := flat_get (xs := ps.map pgV) (i := j) (j := 0) (e := pgV p) hps (by rw [List.getElem?_map, hj]; rfl) (by decide)
          have h2 := flat_get (xs := ps.map pgV) (i := j) (j := 1) (e := pgV p) hps (by rw [List.getElem?_map, hj]; rfl) (by decide)
          have p1 := hv _ _ h1
          have p2 := hv _ _ h2
          refine ⟨?_, ?_⟩
          · exact (VOk.k (φ := phi) (h := h) (.l (.pl p1))).i_inv
          · exact (VOk.k (φ := phi) (h := h) (.l (.pl p2))).s_inv
        let zs : List (Int × ByteArray) := (List.range ps.length).map fun j => ((ps.getD j default).block, match f (j * 2 + 1) with | .string D => D | _ => .empty)
        have hzl : zs.length = ps.length := by simp [zs]
        have hzat : ∀ (j : Nat) (p : Pg), ps[j]? = some p → (putAt zs j).1 = p.block ∧ f (j * 2 + 1) = .string (putAt zs j).2 ∧ (putAt zs j).2.data.toList = p.data := by
          intro j p hj
          have hlt := (List.getElem?_eq_some_iff.1 hj).1
          obtain ⟨_, D, hD, hDd⟩ := elem j p hj
          have e : putAt zs j = (p.block, D) := by
            simp only [putAt, zs, List.getElem?_map, List.getElem?_range hlt, Option.map_some, Option.getD_some, hD, List.getD_eq_getElem?_getD, hj]
          rw [e]
          exact ⟨rfl, hD, hDd⟩
        have hRl : ∀ {q : Bool} {b o : Nat}, (if q = true then h.Rp else h.Rl) b o → h.Rl b o := by
          intro q b o hh
          cases q with
          | true => exact S.pl _ _ hh
          | false => exact hh
        have hI : Puts w.heap.size w A zs := by
          intro h0
          obtain ⟨b, off, rfl, hc⟩ := ha (by rw [hfl]; omega)
          refine ⟨b, off, rfl, S.rb b (off + 0) (hRl (hc 0 (by rw [hfl]; omega)).1), fun j hj => ?_⟩
          have hj' : j < ps.length := by omega
          obtain ⟨z1, z2, z3⟩ := hzat j ps[j] (List.getElem?_eq_getElem hj')
          have g1 := (hc (j * 2) (by rw [hfl]; omega)).2.1
          have g2 := (hc (j * 2 + 1) (by rw [hfl]; omega)).2.1
          rw [(elem j ps[j] (List.getElem?_eq_getElem hj')).1, ← z1] at g1
          rw [z2] at g2
          exact ⟨g1, by rw [Nat.add_assoc]; exact g2⟩
        have hreach : zs.length ≤ 9223372036854775807 := by
          have := hcond.2
          unfold lim at this; omega
        obtain ⟨R, hRd, hR, hN⟩ : ∃ R : ByteArray, R.data.toList = diskRead bs ps k ∧ (∀ k', k' < zs.length → (∀ j, k' < j → j < zs.length → (putAt zs j).1 ≠ k) → (putAt zs k').1 = k → R = (putAt zs k').2) ∧
            ((∀ j, j < zs.length → (putAt zs j).1 ≠ k) → ∃ m : Nat, k = m ∧ m < (bs.map V.s).length ∧ ∃ b off, Ab = some ⟨b, off, none⟩ ∧ w.cell? ⟨b, off + m, none⟩ = some (.string R) ∧ b < w.heap.size) := by
          cases hl : lastOf k ps with
          | some d =>
            obtain ⟨j, p, hj, hk, hd, hlast⟩ := lastOf_some hl
            have hjlt := (List.getElem?_eq_some_iff.1 hj).1
            obtain ⟨z1, z2, z3⟩ := hzat j p hj
            refine ⟨(putAt zs j).2, ?_, ?_, ?_⟩
            · rw [z3, hd]; unfold diskRead; rw [hl]; rfl
            · intro k' hk' hn hkk
              have hne : ∀ i, i ≠ j → i < zs.length → j < i → (putAt zs i).1 ≠ k := fun i _ hi hji => by
                rw [(hzat i ps[i] (List.getElem?_eq_getElem (by omega))).1]
                exact hlast i _ hji (List.getElem?_eq_getElem (by omega))
              rcases Nat.lt_trichotomy k' j with h1 | h1 | h1
              · exact absurd (z1.trans hk) (hn j h1 (by omega))
              · rw [h1]
              · exact absurd hkk (hne k' (by omega) hk' h1)
            · intro hn
              exact absurd (z1.trans hk) (hn j (by omega))
          | none =>
            rw [hl] at hcond
            have hc2 : 0 ≤ k ∧ k < bs.length := by simpa using hcond.1
            obtain ⟨m, rfl⟩ : ∃ m : Nat, k = m := ⟨k.toNat, by omega⟩
            have hm : m < bs.length := by omega
            have hflb : (flat (bs.map V.s)).length = bs.length := by rw [flat_strs, List.length_map]
            obtain ⟨b, off, rfl, hc⟩ := hab (by rw [hflb]; omega)
            have hcm := hc m (by rw [hflb]; omega)
            have pm := hvb m (.s bs[m]) (by rw [flat_strs, List.getElem?_map, List.getElem?_eq_getElem hm]; rfl)
            obtain ⟨R, hR1, hR2⟩ := (VOk.k (φ := phi) (h := h) (.l (.pl pm))).s_inv
            refine ⟨R, ?_, ?_, fun _ => ⟨m, rfl, by simpa using hm, b, off, rfl, by rw [← hR1]; exact hcm.2.1, S.rb b _ (hRl hcm.1)⟩⟩
            · rw [hR2]; unfold diskRead; rw [hl]; simp [List.getD_eq_getElem?_getD, hm]
            · intro k' hk' _ hkk
              have := lastOf_none hl k' ps[k'] (List.getElem?_eq_getElem (by omega))
              exact absurd (by rw [← (hzat k' ps[k'] (List.getElem?_eq_getElem (by omega))).1]; exact hkk) this
        have hc := callsIn_wide.1 (Tryz.read_in Fence.wide 3 trivial trivial trivial rfl (Nat.le_refl _) k A Ab cap capb (bs.map V.s).length c2 c3 zs hreach w hI R hR hN)
        refine .inl ⟨Tryz.call315 _ _, ?_⟩
        rw [hzl, List.length_map] at hc
        refine hc.mono ?_
        rintro e w' ⟨rfl, B⟩
        refine ⟨_, rfl, h, (S.below B).slot1 ?_⟩
        show VOk phi w' h (.s (diskRead bs ps k)) _
        rw [← hRd]
        exact .k (.l (.pl (.s R)))
      · cases he
    · cases he
  · cases he
end Go.VS
