/-
  NameHeap.usedSlots of impl (slices.Clone, slices.DeleteFunc): the walk. The two layings below: lay-plain's text.
-/
import Derived.Shelf.SlicesE.DeleteFunc
import Derived.Shelf.Slices.Clone
import Derived.Lib.OwnBridge
import Derived.Test.YtekbnablgfhhpaaGreatDoorProg
set_option linter.all false
set_option linter.unusedVariables false
namespace Go.Proofs
open Go.Shelf Go.RowKit Go.Lib Go.Sort
def Tryz.l180_ren : Go.Shelf.Ren := ⟨fun | 10 => 180 | 6 => 125 | n => n, fun | 22 => 22 | 23 => 9 | 25 => 62 | 3 => 3 | 4 => 4 | 0 => 0 | n => n, fun | n => n⟩
theorem Tryz.l180 : Go.Proofs.SlLaysH.n10 Tryz.prog Tryz.l180_ren := {
  mixed := by kernel_rfl
  f6 := ⟨Tryz.f125.name, by decide, Tryz.func125.trans (congrArg some (by kernel_rfl))⟩
  f10 := ⟨Tryz.f180.name, by decide, Tryz.func180.trans (congrArg some (by kernel_rfl))⟩
  t0 := Tryz.underlying0
  a0 := Tryz.isAgg0
  z0 := Tryz.sizeOf0
  v0 := Tryz.zeroValue0
  t3 := Tryz.underlying3
  a3 := Tryz.isAgg3
  z3 := Tryz.sizeOf3
  v3 := Tryz.zeroValue3
  t4 := Tryz.underlying4
  a4 := Tryz.isAgg4
  z4 := Tryz.sizeOf4
  v4 := Tryz.zeroValue4
  t22 := Tryz.underlying22
  a22 := Tryz.isAgg22
  z22 := Tryz.sizeOf22
  v22 := Tryz.zeroValue22
  a23 := Tryz.isAgg9
  z23 := Tryz.sizeOf9
  t25 := Tryz.underlying62
  a25 := Tryz.isAgg62
  z25 := Tryz.sizeOf62
  v25 := Tryz.zeroValue62 }
def Tryz.lays2n16_ren : Go.Shelf.Ren := ⟨fun | 16 => 181 | n => n, fun | 24 => 22 | 9 => 9 | 4 => 4 | n => n, fun | n => n⟩
theorem Tryz.lays2n16 : Go.Proofs.Lays2.n16 Tryz.prog Tryz.lays2n16_ren := {
  mixed := by kernel_rfl
  f16 := Tryz.func181.trans (congrArg some (by kernel_rfl))
  t4 := Tryz.underlying4
  a4 := Tryz.isAgg4
  z4 := Tryz.sizeOf4
  v4 := Tryz.zeroValue4
  t9 := Tryz.underlying9
  a9 := Tryz.isAgg9
  z9 := Tryz.sizeOf9
  v9 := Tryz.zeroValue9
  t24 := Tryz.underlying22
  a24 := Tryz.isAgg22
  z24 := Tryz.sizeOf22
  v24 := Tryz.zeroValue22
  i9 := by kernel_rfl }

theorem Tryz.clone181 (A : Option Addr) (n cap : Nat) (zs : List ByteArray) (w : World) (hn : n = zs.length) (hbig : n * 16 ≤ 140737488355328)
    (hc : 0 < n → ∃ b off, A = some ⟨b, off, none⟩ ∧ ∀ j, j < n → w.cell? ⟨b, off + j, none⟩ = some (.string (zs.getD j ByteArray.empty))) :
    Calls Tryz.prog 181 #[.slice A n cap] w fun e w' => ∃ v', e = .returned v' ∧ w'.ownsRow w.heap.size 9 1 v' n (zs.map Value.string) ∧ Below w.heap.size w w' := by
  by_cases h0 : 0 < n
  · obtain ⟨b, off, rfl, hc2⟩ := hc h0
    refine (Any.slices_Clone_string Tryz.lays2n16 b off n cap zs w (by omega) hbig fun j hj => hc2 j (by omega)).mono ?_
    rintro e w' ⟨v', rfl, ho, _, hb⟩
    rw [List.take_of_length_le (by omega)] at ho
    exact ⟨v', rfl, ho, hb⟩
  · obtain rfl : n = 0 := by omega
    obtain rfl : zs = [] := List.length_eq_zero_iff.1 hn.symm
    cases A with
    | none =>
      refine (Any.slices_Clone_string_nil Tryz.lays2n16 0 cap w).mono ?_
      rintro e w' ⟨rfl, rfl⟩
      exact ⟨_, rfl, ⟨rfl, .inl ⟨rfl, rfl⟩⟩, Below.refl _ _⟩
    | some a =>
      refine (Any.slices_Clone_string_zero Tryz.lays2n16 a cap w).mono ?_
      rintro e w' ⟨v', rfl, ho, _, hb⟩
      exact ⟨v', rfl, ho, hb⟩

theorem Tryz.gives182 (x : ByteArray) (W : World) : FnGives Tryz.prog 182 #[] #[.string x] (.bool (x.toList == [])) W := by
  show Calls Tryz.prog 182 #[.string x] W _
  go_enter Tryz.func182, Tryz.ntmps182
  go_wp2
  all_goals (go_ret; exact ⟨by simp_all, 0, rfl⟩)

theorem Tryz.del180_nil (w : World) : Calls Tryz.prog 180 #[.slice none 0 0, .func (.func 182) #[] #[]] w fun e w' => e = .returned (.slice none 0 0) ∧ w' = w := by
  have h := AnyE.slices_IndexFunc_empty (P := Tryz.prog) (ρ := Tryz.l180_ren) { Tryz.l180 with } none 0 (.func (.func 182) #[] #[]) w
  change Calls Tryz.prog 125 _ _ _ at h
  go_enter Tryz.func180, Tryz.ntmps180
  go_wp2_with (go_at_call 125; refine h.mono ?_; rintro e w' ⟨rfl, rfl⟩)
  go_ret
  exact ⟨rfl, rfl⟩

theorem Tryz.del180 (B : Nat) (v : Value) (n : Nat) (zs : List ByteArray) (w : World) (hn : n ≤ 9223372036854775807) (ho : w.ownsRow B 9 1 v n (zs.map Value.string)) :
    Calls Tryz.prog 180 #[v, .func (.func 182) #[] #[]] w fun e w' => (∃ A c, e = .returned (.slice A (zs.filter fun x => !(x.toList == [])).length c)) ∧ Below B w w' := by
  obtain ⟨hl, ⟨rfl, rfl⟩ | ⟨g, cap, cur, rfl, hb, hg, hcap, hmax, hsz, htk⟩⟩ := ho
  · obtain rfl : zs = [] := by simpa using hl
    refine (Tryz.del180_nil w).mono ?_
    rintro e w' ⟨rfl, rfl⟩
    exact ⟨⟨_, _, rfl⟩, Below.refl _ _⟩
  · have hl : zs.length = n := by simpa using hl
    have hH : Holds Value.string w g 0 zs.toArray := by
      intro j hj
      have hj : j < zs.length := by simpa using hj
      have e1 : cur[j]? = some (.string zs[j]) := by
        have := congrArg (fun l => l[j]?) htk
        simpa [List.getElem?_take, show j < n by omega, hj] using this
      refine ⟨?_, ?_⟩
      · rw [getElem!_pos zs.toArray j (by simpa using hj)]
        simp [World.cell?, hg, e1]
      · simp [World.frozen?, hg]
    have eg : ∀ args w, (callFunc 182 args).run Tryz.prog w = .ok (.enter 182 args) w := enters_of Tryz.func182 (by kernel_rfl) rfl
    have hcon := AnyE.slices_DeleteFunc Tryz.l180 Value.string (fun _ => rfl) (fun x => x.toList == []) 182 #[] eg ByteArray.empty Tryz.zeroValue9 g 0 cap zs.toArray w
      (fun W x _ => Tryz.gives182 x W) (fun m os dk x _ => Tryz.gives182 x _) hH (by simpa using by omega) (by simpa using by omega)
    change Calls Tryz.prog 180 _ _ _ at hcon
    rw [show zs.toArray.size = n by simpa using hl] at hcon
    refine hcon.mono ?_
    rintro e w' ⟨rfl, q, rfl⟩
    exact ⟨⟨_, _, rfl⟩, Lib.below_putRow (Below.refl _ _) hb⟩

set_option maxHeartbeats 1000000 in
set_option maxRecDepth 100000 in
theorem Tryz.slots155 (A : Option Addr) (n cap : Nat) (zs : List ByteArray) (w : World) (hn : n = zs.length) (hbig : n * 16 ≤ 140737488355328)
    (hc : 0 < n → ∃ b off, A = some ⟨b, off, none⟩ ∧ ∀ j, j < n → w.cell? ⟨b, off + j, none⟩ = some (.string (zs.getD j ByteArray.empty))) :
    Calls Tryz.prog 155 #[.agg #[.slice A n cap]] w fun e w' => e = .returned (.int .i64 (zs.filter fun x => !(x.toList == [])).length) ∧ Below w.heap.size w w' := by
  have h1 := Tryz.clone181 A n cap zs (w.alloc (.cells #[.slice A n cap] 90)) hn hbig fun h0 => by
    obtain ⟨b, off, rfl, h⟩ := hc h0
    exact ⟨b, off, rfl, fun j hj => Lib.cell?_alloc_some _ (h j hj)⟩
  have hs : (w.alloc (.cells #[.slice A n cap] 90)).heap.size = w.heap.size + 1 := by simp
  rw [hs] at h1
  have h63 : n ≤ 9223372036854775807 := by omega
  have h2 := fun v w' ho => Tryz.del180 (w.heap.size + 1) v n zs w' h63 ho
  clear hc hn
  generalize (zs.filter fun x => !(x.toList == [])).length = r at h2 ⊢
  go_enter Tryz.func155, Tryz.ntmps155
  go_wp2_with (first | (go_at_call 181; refine h1.mono ?_; rintro e w1 ⟨v', rfl, ho, hb1⟩) | (go_at_call 180; refine (h2 _ _ ho).mono ?_; rintro e w2 ⟨⟨A2, c2, rfl⟩, hb2⟩))
  go_ret
  refine ⟨rfl, ?_⟩
  have e0 : Below w.heap.size w (w.alloc (.cells #[.slice A n cap] 90)) := (Below.refl _ w).alloc (Nat.le_refl _) _
  exact e0.trans ((hb1.mono (Nat.le_succ _)).trans (hb2.mono (Nat.le_succ _)))
end Go.Proofs
