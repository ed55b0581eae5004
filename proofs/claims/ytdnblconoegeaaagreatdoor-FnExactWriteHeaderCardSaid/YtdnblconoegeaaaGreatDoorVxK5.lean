/-
  slices.Insert: as the evaluator tells it.
-/
import Derived.Test.YtdnblconoegeaaaGreatDoorVxK4
set_option linter.all false
namespace Go.VS
open Go Go.Proofs Go.RowKit
set_option linter.unusedSimpArgs false

theorem act3 {φ : Nat → FuncId} {N : Env} {c : Cx} {a : Act} {w : World} {h : Gh} {m : List (List V)} {r : List Rw} {x x2 x3 : V} (S : Sim φ N c ⟨[x, x2, x3], m, r⟩ a w h) : ∃ y y2 y3, a = ⟨#[y, y2, y3], []⟩ ∧ VOk φ w h x y ∧ VOk φ w h x2 y2 ∧ VOk φ w h x3 y3 := by
  obtain ⟨⟨l⟩, ds⟩ := a
  have hs : l.length = 3 := S.nt
  rcases l with _ | ⟨y, _ | ⟨y2, _ | ⟨y3, _ | ⟨_, _⟩⟩⟩⟩ <;> simp at hs
  have hd : ds = [] := S.df
  subst hd
  exact ⟨y, y2, y3, rfl, S.t 0 x rfl, S.t 1 x2 rfl, S.t 2 x3 rfl⟩

section
variable {φ : Nat → FuncId} {N : Env} {c : Cx} {w w' : World} {h : Gh}
theorem Sim.only2 {r : List Rw} {z n : Nat} {es : List V} {y : Value} (S : Sim φ N c ⟨[.sl r.length 0 n false], [], r ++ [.row z false es]⟩ ⟨#[y], []⟩ w h) (hr : r = [.gone] ∨ r = [.gone, .gone]) (hG : ∀ id x, c.G0 id = some x → False) : ∃ h', Sim φ N c ⟨[.sl 0 0 n false], [], [.row z false es]⟩ ⟨#[y], []⟩ w h' := by
  have e : St.outP 0 ⟨[.sl r.length 0 n false], [], r ++ [.row z false es]⟩ [.t 0] 0 = some (.sl 0 0 n false, [], [.row z false es]) := by
    rcases hr with rfl | rfl <;> rfl
  exact outP_ok (y := y) S e S.b0len (fun id x hx => (hG id x hx).elim) fun v hv => by
    have : v = .sl r.length 0 n false := by
      rcases hr with rfl | rfl <;> cases hv <;> rfl
    rw [this]
    exact S.t 0 _ rfl

/-- The new row in a new block. -/
theorem Sim.insNew {t : List V} {r : List Rw} {a : Act} (S : Sim φ N c ⟨t, [], r⟩ a w h) (hr : r = [.gone] ∨ r = [.gone, .gone]) (hG : ∀ id x, c.G0 id = some x → False) {z cap n : Nat} {es : List V} {cc : Array Value} {T : TypeId} (B : Below w.heap.size w w') (hb : w'.heap[w.heap.size]? = some (.cells cc T (0, 0)))
    (hz : ∀ x, x ∈ es → x.cells.length = z) (hs : cc.size = cap * z) (hn : es.length = n) (hc : n ≤ cap) (hm : cap ≤ maxLen) (hbt : noBt es = true) (hv : ∀ j v, (flat es)[j]? = some v → POk w h.Rp v (cc.getD j undef) ∧ (cc.getD j undef).oneCell' = true) :
    ∃ h', Sim φ N c ⟨[.sl 0 0 n false], [], [.row z false es]⟩ ⟨#[.slice (some ⟨w.heap.size, 0, none⟩) n cap], []⟩ w' h' := by
  subst hn
  have S1 := S.below B
  have F := S.freshBlk B (Nat.le_refl _) (heap_lt hb)
  have kept : KeptR h.Rp w w' := fun b o hR => B.cell (p := ⟨b, o, none⟩) (S.rb b o (S.pl b o hR))
  obtain ⟨h1, S2⟩ := Sim.rowFree (s := ⟨t, [], r⟩) (es := es) (z := z) (cap := cap) (cap' := cap) S1 ⟨F.r, F.o, F.c, F.n, heap_lt hb⟩ hb hz hs hc (Nat.le_refl _) hm (fun n => noBt_mem hbt n) (fun o _ => by simp) (fun j v hj => ⟨(hv j v hj).1.mono kept (fun _ _ x => x), (hv j v hj).2⟩) (fun _ => rfl)
  exact Sim.only2 (r := r) S2 hr hG

/-- The new row where the old one lay. -/
theorem Sim.insOld {t : List V} {a : Act} {r1 : Rw} (S : Sim φ N c ⟨t, [], [r1, .gone]⟩ a w h) {b room z cap n : Nat} (F : Free N c ⟨t, [], [.gone, .gone]⟩ w h b) (hG : ∀ id x, c.G0 id = some x → False) {es : List V} {cc cc' : Array Value} {T : TypeId} (U : Upd w w' b cc cc' T (0, 0))
    (hz : ∀ x, x ∈ es → x.cells.length = z) (hs : cc.size = room * z) (hn : es.length = n) (hc : n ≤ cap) (hcr : cap ≤ room) (hm : room ≤ maxLen) (hbt : noBt es = true) (hv : ∀ j v, (flat es)[j]? = some v → POk w h.Rp v (cc'.getD j undef) ∧ (cc'.getD j undef).oneCell' = true) :
    ∃ h', Sim φ N c ⟨[.sl 0 0 n false], [], [.row z false es]⟩ ⟨#[.slice (some ⟨b, 0, none⟩) n cap], []⟩ w' h' := by
  subst hn
  have S0 : Sim φ N c ⟨t, [], [.gone, .gone]⟩ a w h := S.gone 0
  obtain ⟨S1, F1⟩ := S0.setFree F U
  have FR : Fr (fun k _ => k = b) w w' := U.fr _ fun j hj => absurd rfl hj
  have hle : h.Le h w w' := .fr FR S.pl fun k o x => ⟨fun e => F.r o (e ▸ x), S.rb k o x⟩
  obtain ⟨h1, S2⟩ := Sim.rowFree (s := ⟨t, [], [.gone, .gone]⟩) (es := es) (z := z) (cap := room) (cap' := cap) S1 F1 U.new hz (by rw [U.len]; exact hs) hc hcr hm (fun n => noBt_mem hbt n) (fun o _ => by simp) (fun j v hj => ⟨(hv j v hj).1.mono hle.kp hle.p, (hv j v hj).2⟩) (fun _ => rfl)
  exact Sim.only2 (r := [.gone, .gone]) S2 (.inr rfl) hG
end
end Go.VS
