/-
  A row of the call's own, handed back.
-/
import Derived.Test.YtdnblconoegeaaaGreatDoorVxJ3
set_option linter.all false
namespace Go.VS
open Go Go.Proofs Go.RowKit
set_option linter.unusedSimpArgs false

section
variable {φ : Nat → FuncId} {N : Env} {c : Cx} {s : St} {a : Act} {w w' : World} {h : Gh}
/-- A block that is new since then is free. -/
theorem Sim.freshBlk (S : Sim φ N c s a w h) (B : Below w.heap.size w w') {g : Nat} (hg : w.heap.size ≤ g) (hlt : g < w'.heap.size) : Free N c s w' h g := by
  refine ⟨fun o x => absurd (S.rb _ _ x) (by omega), ?_, .inr (Nat.le_trans S.fr.size hg), Nat.le_trans (Nat.le_trans S.lN S.fr.size) hg, hlt⟩
  rintro o (⟨i, lo, hi, ⟨cs, hc, hb, _⟩, _, _⟩ | ⟨i, z, xs, g', cap, h1, h2, h3⟩)
  · obtain ⟨b, base, hb', cc, T, fr, e1, _⟩ := S.m i cs hc
    rw [hb] at hb'
    cases hb'
    have := heap_lt e1
    omega
  · obtain ⟨g2, hg2, _, _, _, h4⟩ := S.r i z false xs h1
    rw [h2] at hg2
    cases hg2
    rw [h3] at h4
    obtain ⟨cc, T, fr, e1, _⟩ := h4
    have := heap_lt e1
    omega

/-- A row in a free block, its slice the one value. -/
theorem Sim.rowFree (S : Sim φ N c ⟨s.t, [], s.r⟩ a w h) {b z cap cap' : Nat} {es : List V} {cc : Array Value} {T : TypeId} {fr : Nat × Nat} (F : Free N c ⟨s.t, [], s.r⟩ w h b) (hb : w.heap[b]? = some (.cells cc T fr)) (hz : ∀ x, x ∈ es → x.cells.length = z) (hs : cc.size = cap * z) (hc : es.length ≤ cap') (hcc : cap' ≤ cap) (hm : cap ≤ maxLen) (hbt : ∀ n, V.bt n ∉ es)
    (hf : ∀ o, o < cc.size → ¬ (fr.1 ≤ o ∧ o < fr.2)) (hv : ∀ j v, (flat es)[j]? = some v → POk w h.Rp v (cc.getD j undef) ∧ (cc.getD j undef).oneCell' = true) (hfr : z ≠ 1 → fr = (0, 0)) :
    ∃ h', Sim φ N c ⟨[.sl s.r.length 0 es.length false], [], s.r ++ [.row z false es]⟩ ⟨#[.slice (some ⟨b, 0, none⟩) es.length cap'], []⟩ w h' := by
  have hb' : ∀ n, V.bt n ∈ es → U8 N.P T := fun n hn => absurd hn (hbt n)
  have S2 := S.addRow (z := z) (xs := es) (g := ⟨z, es.length, some (b, cap)⟩) (fun b' cap' e => by cases e; exact F)
    ⟨rfl, rfl, hz, cc, T, fr, hb, hs, Nat.le_trans hc hcc, ⟨hm, hb', fun e _ => hfr e⟩, fun _ => hf, (fun e => nomatch e), hv⟩
  refine ⟨_, S2.slot1 (v := .sl s.r.length 0 es.length false) (.k (.sl _ 0 _ false _ cap' ⟨z, es.length, some (b, cap)⟩ (by simp) (by simp) hc (fun e => nomatch e) ⟨by omega, fun _ => by simp⟩ ⟨0, rfl⟩))⟩

theorem Sim.rowNone (S : Sim φ N c ⟨s.t, [], s.r⟩ a w h) (z : Nat) : ∃ h', Sim φ N c ⟨[.sl s.r.length 0 0 false], [], s.r ++ [.row z false []]⟩ ⟨#[.slice none 0 0], []⟩ w h' := by
  have S2 := S.addRow (z := z) (xs := []) (g := ⟨z, 0, none⟩) (fun b cap' e => by cases e) ⟨rfl, rfl, fun x hx => by simp at hx, rfl⟩
  exact ⟨_, S2.slot1 (v := .sl s.r.length 0 0 false) (.k (.sl _ 0 _ false _ 0 ⟨z, 0, none⟩ (by simp) (by simp) (Nat.le_refl _) (fun e => nomatch e) rfl rfl))⟩

/-- Only that row is left. -/
theorem Sim.only {r : List Rw} {z n : Nat} {es : List V} {y : Value} (S : Sim φ N c ⟨[.sl r.length 0 n false], [], r ++ [.row z false es]⟩ ⟨#[y], []⟩ w h) (hr : r = [] ∨ r = [.gone]) (hG : ∀ id x, c.G0 id = some x → False) : ∃ h', Sim φ N c ⟨[.sl 0 0 n false], [], [.row z false es]⟩ ⟨#[y], []⟩ w h' := by
  have e : St.outP 0 ⟨[.sl r.length 0 n false], [], r ++ [.row z false es]⟩ [.t 0] 0 = some (.sl 0 0 n false, [], [.row z false es]) := by
    rcases hr with rfl | rfl <;> rfl
  exact outP_ok (y := y) S e S.b0len (fun id x hx => (hG id x hx).elim) fun v hv => by
    have : v = .sl r.length 0 n false := by
      rcases hr with rfl | rfl <;> cases hv <;> rfl
    rw [this]
    exact S.t 0 _ rfl
end
end Go.VS
