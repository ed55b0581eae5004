/-
  slices.Insert of one element: what the machine does. Printed.
-/
import Derived.Test.YtdnblconoegeaaaGreatDoorVxI1
set_option linter.all false
namespace Go.Proofs
open Go Go.Shelf Go.RowKit Go.Lib Go.VS

set_option maxHeartbeats 4000000 in
set_option maxRecDepth 100000 in
/-- At the end, with room. -/
theorem Tryz.insRoom275 (b n c vb vc : Nat) (cur vcur : Array Value) (T TV : TypeId) (vs : List Value) (w : World) (hroom : n + 1 ≤ c) (hc63 : c ≤ 9223372036854775807) (hb : w.heap[b]? = some (.cells cur T (0, 0))) (hv : w.heap[vb]? = some (.cells vcur TV (0, 0)))
    (hcs : c * 2 ≤ cur.size) (hvl : vs.length = 2) (hvs : ∀ (j : Nat) (v : Value), vs[j]? = some v → vcur[j]? = some v) (h1v : ∀ v ∈ vs, v.oneCell' = true) :
    Calls Tryz.prog 275 #[.slice (some ⟨b, 0, none⟩) n c, .int .i64 n, .slice (some ⟨vb, 0, none⟩) 1 vc] w fun e w' =>
      e = .returned (.slice (some ⟨b, 0, none⟩) (n + 1) c) ∧ Upd w w' b cur (arrSet cur (n * 2) vs) T (0, 0) := by
  obtain ⟨i0, hi0, hz0, hzs, hzb⟩ := info_parts Tryz.infoI160
  have u0 : ∀ w, Sem.run Tryz.prog (underlying 40) w = .ok (TypeDesc.slice 160) w := run_underlying Tryz.underlying40
  have mixed : Tryz.prog.follows .mixedOrders = true := by kernel_rfl
  obtain ⟨W1, hst1, U1⟩ := run_stores Tryz.prog b (n * 2) vs 0 cur w hb (by omega) (fun j _ _ h => by omega) h1v
  rw [Nat.add_zero] at U1
  have hrun : ∀ ty, (Builtin.append_ #[40, 40] ty #[.slice (some ⟨b, 0, none⟩) n c, .slice (some ⟨vb, 0, none⟩) 1 vc]).run Tryz.prog w = .ok (.slice (some ⟨b, 0, none⟩) (n + 1) c) W1 := fun ty =>
    run_app_fit (m := 1) Tryz.underlying40 hi0 hzs (by unfold appT; rw [Tryz.underlying40]) (fun w' => by simp [Builtin.lenOf]) (run_firstCells_some w 2 1 ⟨vb, 0, none⟩ 1 vc vs (by omega) (fun j v hj => by rw [Addr.add_lit, Nat.zero_add]; exact cell_of hv (hvs j v hj))) hroom (by rw [Addr.add_lit, Nat.zero_add]; exact hst1)
  clear hst1
  go_enter Tryz.func275, Tryz.ntmps275
  go_wp2_with (at_builtin; refine Lib.wpList_append_run _ rfl _ _ _ _ rfl _ _ rfl rfl _ _ (hrun _) ?_)
  go_ret
  exact ⟨rfl, U1⟩

set_option maxHeartbeats 4000000 in
set_option maxRecDepth 100000 in
/-- At the end, no room: a new row. -/
theorem Tryz.insEnd275 (base : Option Addr) (n c vb vc : Nat) (vcur : Array Value) (TV : TypeId) (olds vs : List Value) (w : World) (hnc : n ≤ c) (hroom : c < n + 1) (hbig : (n + 1) * 24 ≤ 140737488355328) (hol : olds.length = n * 2) (hnil : base = none → n = 0)
    (hcs : ∀ a, base = some a → ∀ (j : Nat) (v : Value), olds[j]? = some v → w.cell? (a.add j) = some v) (hv : w.heap[vb]? = some (.cells vcur TV (0, 0))) (hvl : vs.length = 2) (hvs : ∀ (j : Nat) (v : Value), vs[j]? = some v → vcur[j]? = some v) (h1v : ∀ v ∈ vs, v.oneCell' = true) :
    Calls Tryz.prog 275 #[.slice base n c, .int .i64 n, .slice (some ⟨vb, 0, none⟩) 1 vc] w fun e w' =>
      e = .returned (.slice (some ⟨w.heap.size, 0, none⟩) (n + 1) (grownCap w (n + 1) c 160)) ∧
      w' = w.drew.alloc (.cells (olds.toArray ++ vs.toArray ++ Builtin.zeroCells (Value.agg #[Value.int IntKind.i64 0, Value.string { data := #[] }]).cells (grownCap w (n + 1) c 160 - (n + 1))) 160) := by
  obtain ⟨i0, hi0, hz0, hzs, hzb⟩ := info_parts Tryz.infoI160
  have u0 : ∀ w, Sem.run Tryz.prog (underlying 40) w = .ok (TypeDesc.slice 160) w := run_underlying Tryz.underlying40
  have mixed : Tryz.prog.follows .mixedOrders = true := by kernel_rfl
  have hold : (Builtin.firstCells 2 n (.slice base n c)).run Tryz.prog w.drew = .ok olds.toArray w.drew := by
    cases base with
    | none =>
      have h0 := hnil rfl
      subst h0
      have ho : olds = [] := List.length_eq_zero_iff.1 (by simpa using hol)
      rw [ho]
      exact run_firstCells_none w.drew 2 0 0 c
    | some a => exact run_firstCells_some w.drew 2 n a n c olds hol (fun j v hj => hcs a rfl j v hj)
  have hrun : ∀ ty, (Builtin.append_ #[40, 40] ty #[.slice base n c, .slice (some ⟨vb, 0, none⟩) 1 vc]).run Tryz.prog w = _ := fun ty =>
    run_app_grow (m := 1) Tryz.underlying40 hi0 hz0 hzs (by unfold appT; rw [Tryz.underlying40]) (fun w' => by simp [Builtin.lenOf]) (run_firstCells_some w.drew 2 1 ⟨vb, 0, none⟩ 1 vc vs (by omega) (fun j v hj => by rw [Addr.add_lit, Nat.zero_add]; exact cell_of (w := w.drew) hv (hvs j v hj))) hold hroom (by omega) (by rw [hzb]; exact growslice_fits hroom hbig)
  go_enter Tryz.func275, Tryz.ntmps275
  cases base with
  | none =>
    have h0 := hnil rfl
    subst h0
    go_wp2_with (at_builtin; refine Lib.wpList_append_run _ rfl _ _ _ _ rfl _ _ rfl rfl _ _ (hrun _) ?_)
    go_ret
    exact ⟨rfl, rfl⟩
  | some a =>
    obtain ⟨ab, ao, asp⟩ := a
    go_wp2_with (at_builtin; refine Lib.wpList_append_run _ rfl _ _ _ _ rfl _ _ rfl rfl _ _ (hrun _) ?_)
    all_goals (go_ret; exact ⟨rfl, rfl⟩)

set_option maxHeartbeats 4000000 in
set_option maxRecDepth 100000 in
/-- At the end, with room. -/
theorem Tryz.insRoom224 (b n c vb vc : Nat) (cur vcur : Array Value) (T TV : TypeId) (vs : List Value) (w : World) (hroom : n + 1 ≤ c) (hc63 : c ≤ 9223372036854775807) (hb : w.heap[b]? = some (.cells cur T (0, 0))) (hv : w.heap[vb]? = some (.cells vcur TV (0, 0)))
    (hcs : c * 3 ≤ cur.size) (hvl : vs.length = 3) (hvs : ∀ (j : Nat) (v : Value), vs[j]? = some v → vcur[j]? = some v) (h1v : ∀ v ∈ vs, v.oneCell' = true) :
    Calls Tryz.prog 224 #[.slice (some ⟨b, 0, none⟩) n c, .int .i64 n, .slice (some ⟨vb, 0, none⟩) 1 vc] w fun e w' =>
      e = .returned (.slice (some ⟨b, 0, none⟩) (n + 1) c) ∧ Upd w w' b cur (arrSet cur (n * 3) vs) T (0, 0) := by
  obtain ⟨i0, hi0, hz0, hzs, hzb⟩ := info_parts Tryz.infoI186
  have u0 : ∀ w, Sem.run Tryz.prog (underlying 202) w = .ok (TypeDesc.slice 186) w := run_underlying Tryz.underlying202
  have mixed : Tryz.prog.follows .mixedOrders = true := by kernel_rfl
  obtain ⟨W1, hst1, U1⟩ := run_stores Tryz.prog b (n * 3) vs 0 cur w hb (by omega) (fun j _ _ h => by omega) h1v
  rw [Nat.add_zero] at U1
  have hrun : ∀ ty, (Builtin.append_ #[202, 202] ty #[.slice (some ⟨b, 0, none⟩) n c, .slice (some ⟨vb, 0, none⟩) 1 vc]).run Tryz.prog w = .ok (.slice (some ⟨b, 0, none⟩) (n + 1) c) W1 := fun ty =>
    run_app_fit (m := 1) Tryz.underlying202 hi0 hzs (by unfold appT; rw [Tryz.underlying202]) (fun w' => by simp [Builtin.lenOf]) (run_firstCells_some w 3 1 ⟨vb, 0, none⟩ 1 vc vs (by omega) (fun j v hj => by rw [Addr.add_lit, Nat.zero_add]; exact cell_of hv (hvs j v hj))) hroom (by rw [Addr.add_lit, Nat.zero_add]; exact hst1)
  clear hst1
  go_enter Tryz.func224, Tryz.ntmps224
  go_wp2_with (at_builtin; refine Lib.wpList_append_run _ rfl _ _ _ _ rfl _ _ rfl rfl _ _ (hrun _) ?_)
  go_ret
  exact ⟨rfl, U1⟩

set_option maxHeartbeats 4000000 in
set_option maxRecDepth 100000 in
/-- At the end, no room: a new row. -/
theorem Tryz.insEnd224 (base : Option Addr) (n c vb vc : Nat) (vcur : Array Value) (TV : TypeId) (olds vs : List Value) (w : World) (hnc : n ≤ c) (hroom : c < n + 1) (hbig : (n + 1) * 40 ≤ 140737488355328) (hol : olds.length = n * 3) (hnil : base = none → n = 0)
    (hcs : ∀ a, base = some a → ∀ (j : Nat) (v : Value), olds[j]? = some v → w.cell? (a.add j) = some v) (hv : w.heap[vb]? = some (.cells vcur TV (0, 0))) (hvl : vs.length = 3) (hvs : ∀ (j : Nat) (v : Value), vs[j]? = some v → vcur[j]? = some v) (h1v : ∀ v ∈ vs, v.oneCell' = true) :
    Calls Tryz.prog 224 #[.slice base n c, .int .i64 n, .slice (some ⟨vb, 0, none⟩) 1 vc] w fun e w' =>
      e = .returned (.slice (some ⟨w.heap.size, 0, none⟩) (n + 1) (grownCap w (n + 1) c 186)) ∧
      w' = w.drew.alloc (.cells (olds.toArray ++ vs.toArray ++ Builtin.zeroCells (Value.agg #[Value.string { data := #[] }, Value.int IntKind.i64 0, Value.string { data := #[] }]).cells (grownCap w (n + 1) c 186 - (n + 1))) 186) := by
  obtain ⟨i0, hi0, hz0, hzs, hzb⟩ := info_parts Tryz.infoI186
  have u0 : ∀ w, Sem.run Tryz.prog (underlying 202) w = .ok (TypeDesc.slice 186) w := run_underlying Tryz.underlying202
  have mixed : Tryz.prog.follows .mixedOrders = true := by kernel_rfl
  have hold : (Builtin.firstCells 3 n (.slice base n c)).run Tryz.prog w.drew = .ok olds.toArray w.drew := by
    cases base with
    | none =>
      have h0 := hnil rfl
      subst h0
      have ho : olds = [] := List.length_eq_zero_iff.1 (by simpa using hol)
      rw [ho]
      exact run_firstCells_none w.drew 3 0 0 c
    | some a => exact run_firstCells_some w.drew 3 n a n c olds hol (fun j v hj => hcs a rfl j v hj)
  have hrun : ∀ ty, (Builtin.append_ #[202, 202] ty #[.slice base n c, .slice (some ⟨vb, 0, none⟩) 1 vc]).run Tryz.prog w = _ := fun ty =>
    run_app_grow (m := 1) Tryz.underlying202 hi0 hz0 hzs (by unfold appT; rw [Tryz.underlying202]) (fun w' => by simp [Builtin.lenOf]) (run_firstCells_some w.drew 3 1 ⟨vb, 0, none⟩ 1 vc vs (by omega) (fun j v hj => by rw [Addr.add_lit, Nat.zero_add]; exact cell_of (w := w.drew) hv (hvs j v hj))) hold hroom (by omega) (by rw [hzb]; exact growslice_fits hroom hbig)
  go_enter Tryz.func224, Tryz.ntmps224
  cases base with
  | none =>
    have h0 := hnil rfl
    subst h0
    go_wp2_with (at_builtin; refine Lib.wpList_append_run _ rfl _ _ _ _ rfl _ _ rfl rfl _ _ (hrun _) ?_)
    go_ret
    exact ⟨rfl, rfl⟩
  | some a =>
    obtain ⟨ab, ao, asp⟩ := a
    go_wp2_with (at_builtin; refine Lib.wpList_append_run _ rfl _ _ _ _ rfl _ _ rfl rfl _ _ (hrun _) ?_)
    all_goals (go_ret; exact ⟨rfl, rfl⟩)
end Go.Proofs
