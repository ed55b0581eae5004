/-
  slices.Insert of one element: what the machine does. Printed.
-/
import Derived.Test.YtdnblconoegeaaaGreatDoorVxI1
set_option linter.all false
namespace Go.Proofs
open Go Go.Shelf Go.RowKit Go.Lib Go.VS

set_option maxHeartbeats 4000000 in
set_option maxRecDepth 100000 in
/-- Ahead of the end, no room: a new row. -/
theorem Tryz.insGrow275 (b n c i vb vc : Nat) (cur vcur : Array Value) (T TV : TypeId) (fr : Nat × Nat) (vs : List Value) (w : World) (hi : i < n) (hnc : n ≤ c) (hroom : c < n + 1) (hbig : (n + 1) * 24 ≤ 140737488355328) (hb : w.heap[b]? = some (.cells cur T fr)) (hv : w.heap[vb]? = some (.cells vcur TV (0, 0)))
    (hcs : c * 2 ≤ cur.size) (hvl : vs.length = 2) (hvs : ∀ (j : Nat) (v : Value), vs[j]? = some v → vcur[j]? = some v) (h1c : ∀ j, j < n * 2 → (cur.getD j undef).oneCell' = true) (h1v : ∀ v ∈ vs, v.oneCell' = true) :
    Calls Tryz.prog 275 #[.slice (some ⟨b, 0, none⟩) n c, .int .i64 i, .slice (some ⟨vb, 0, none⟩) 1 vc] w fun e w' =>
      e = .returned (.slice (some ⟨w.heap.size, 0, none⟩) (n + 1) (grownCap w (n + 1) c 160)) ∧
      ∃ ROW : Array Value, ROW = (cur.toList.take (i * 2)).toArray ++ Builtin.zeroCells (Value.agg #[Value.int IntKind.i64 0, Value.string { data := #[] }]).cells (n + 1 - i) ++ Builtin.zeroCells (Value.agg #[Value.int IntKind.i64 0, Value.string { data := #[] }]).cells (grownCap w (n + 1) c 160 - (n + 1)) ∧
        Upd (w.alloc (.cells ROW 160)) w' w.heap.size ROW (arrSet (arrSet ROW (i * 2) vs) ((i + 1) * 2) ((cur.toList.drop (i * 2)).take ((n - i) * 2))) 160 (0, 0) := by
  obtain ⟨i0, hi0, hz0, hzs, hzb⟩ := info_parts Tryz.infoI160
  have u0 : ∀ w, Sem.run Tryz.prog (underlying 40) w = .ok (TypeDesc.slice 160) w := run_underlying Tryz.underlying40
  have mixed : Tryz.prog.follows .mixedOrders = true := by kernel_rfl
  have hz2 : ¬ ((i : Int) = (n : Int)) := by omega
  have hz3 : (c : Int) < (n : Int) + 1 := by omega
  have hkk : (n : Int) + 1 - (i : Int) = ((n + 1 - i : Nat) : Int) := by omega
  have hik : i + (n + 1 - i) = n + 1 := by omega
  obtain ⟨olds, holds⟩ : ∃ olds, olds = cur.toList.take (i * 2) := ⟨_, rfl⟩
  have hol : olds.length = i * 2 := by rw [holds, List.length_take, Array.length_toList]; omega
  have hbd : w.drew.heap[b]? = some (.cells cur T fr) := hb
  have hog : ∀ (j : Nat) (v : Value), olds[j]? = some v → cur[j]? = some v := fun j v hj => by
    have hjl := (List.getElem?_eq_some_iff.1 hj).1
    rw [holds, List.getElem?_take_of_lt (by omega), Array.getElem?_toList] at hj
    exact hj
  have hold : (Builtin.firstCells i0.size i (.slice (some ⟨b, 0, none⟩) i c)).run Tryz.prog w.drew = .ok olds.toArray w.drew := by
    rw [hzs]
    exact run_firstCells_some w.drew 2 i ⟨b, 0, none⟩ i c olds hol (fun j v hj => by rw [Addr.add_lit, Nat.zero_add]; exact cell_of hbd (hog j v hj))
  obtain ⟨G, hG⟩ : ∃ G, G = grownCap w (n + 1) c 160 := ⟨_, rfl⟩
  have hrz : ∀ ty, (Builtin.append_ #[40, 3] ty #[.slice (some ⟨b, 0, none⟩) i c, .int .i64 ((n : Int) + 1 - (i : Int))]).run Tryz.prog w =
      .ok (.slice (some ⟨w.heap.size, 0, none⟩) (n + 1) G) (w.drew.alloc (.cells (olds.toArray ++ Builtin.zeroCells (Value.agg #[Value.int IntKind.i64 0, Value.string { data := #[] }]).cells (n + 1 - i) ++ Builtin.zeroCells (Value.agg #[Value.int IntKind.i64 0, Value.string { data := #[] }]).cells (G - (n + 1))) 160)) := fun ty => by
    have h := Lib.run_append_grow_zeros w 40 3 ty 160 i0 _ .i64 .i64 Tryz.underlying40 Tryz.underlying3 hi0 hz0 (some ⟨b, 0, none⟩) i c olds hold (n + 1 - i) (by omega) (by omega) (by omega) (by omega) (by rw [hzb]; omega) (by rw [hzb, hik]; exact growslice_fits hroom hbig)
    rw [hik] at h
    rw [hkk, hG]
    exact h
  have hGn : n + 1 ≤ G := by rw [hG]; exact grownCap_ge w _ _ _
  have hG63 : G ≤ 9223372036854775807 := by
    have := grownCap_le_maxLen w (n + 1) c 160 (by unfold maxLen; omega)
    rw [← hG] at this
    unfold maxLen at this
    omega
  rw [← holds, ← hG]
  obtain ⟨ROW, hROW⟩ : ∃ ROW : Array Value, ROW = olds.toArray ++ Builtin.zeroCells (Value.agg #[Value.int IntKind.i64 0, Value.string { data := #[] }]).cells (n + 1 - i) ++ Builtin.zeroCells (Value.agg #[Value.int IntKind.i64 0, Value.string { data := #[] }]).cells (G - (n + 1)) := ⟨_, rfl⟩
  rw [← hROW] at hrz ⊢
  have hRl : ROW.size = G * 2 := by
    rw [hROW, Array.size_append, Array.size_append, size_zeroCells, size_zeroCells, List.size_toArray, hol]
    simp only [Value.cells, List.size_toArray, List.length_cons, List.length_nil]
    omega
  obtain ⟨tail, htail⟩ : ∃ tail, tail = (cur.toList.drop (i * 2)).take ((n - i) * 2) := ⟨_, rfl⟩
  have htl : tail.length = (n - i) * 2 := by rw [htail, List.length_take, List.length_drop, Array.length_toList]; omega
  have htg : ∀ (j : Nat) (v : Value), tail[j]? = some v → cur[i * 2 + j]? = some v := fun j v hj => by
    have hjl := (List.getElem?_eq_some_iff.1 hj).1
    rw [htail, List.getElem?_take_of_lt (by omega), List.getElem?_drop, Array.getElem?_toList] at hj
    exact hj
  have ht1 : ∀ v ∈ tail, v.oneCell' = true := fun v hv => by
    obtain ⟨j, hj, e⟩ := List.getElem_of_mem hv
    have h2 := htg j v (by rw [List.getElem?_eq_getElem hj, e])
    have := h1c (i * 2 + j) (by omega)
    rw [arr_getD, h2] at this
    exact this
  rw [← htail]
  have hbw : b < w.heap.size := heap_lt hb
  have hvw : vb < w.heap.size := heap_lt hv
  have hNew : (w.drew.alloc (.cells ROW 160)).heap[w.heap.size]? = some (.cells ROW 160 (0, 0)) := heap_alloc_new w.drew _
  obtain ⟨W1, hst1, U1⟩ := run_stores Tryz.prog w.heap.size (i * 2) vs 0 ROW _ hNew (by omega) (fun j _ _ h => by omega) h1v
  rw [Nat.add_zero] at U1
  have U1d : W1.drew.heap[w.heap.size]? = some (.cells (arrSet ROW (i * 2) vs) 160 (0, 0)) := U1.new
  obtain ⟨W2, hst2, U2⟩ := run_stores Tryz.prog w.heap.size ((i + 1) * 2) tail 0 _ W1.drew U1d (by rw [htl, U1.len]; omega) (fun j _ _ h => by omega) ht1
  rw [Nat.add_zero] at U2
  have hvA : (w.drew.alloc (.cells ROW 160)).heap[vb]? = some (.cells vcur TV (0, 0)) := (heap_alloc_old w.drew _ hvw).trans hv
  have hbB : W1.drew.heap[b]? = some (.cells cur T fr) := (U1.other b (by omega)).trans ((heap_alloc_old w.drew _ hbw).trans hb)
  have hcpA : ∀ ty dc, (Builtin.copy_ #[40, 40] ty #[.slice (some ⟨w.heap.size, i * 2, none⟩) (n + 1 - i) dc, .slice (some ⟨vb, 0, none⟩) 1 vc]).run Tryz.prog (w.alloc (.cells ROW 160)).drew = .ok (goInt 1) W1 := fun ty dc =>
    run_copyZ (w := w.drew.alloc (.cells ROW 160)) Tryz.underlying40 hi0 hzs w.heap.size (i * 2) _ dc ⟨vb, 0, none⟩ _ vc 1 vs (by simp only [Nat.min_def]; split <;> omega) (by omega) (fun j v hj => by rw [Addr.add_lit, Nat.zero_add]; exact cell_of hvA (hvs j v hj)) hst1
  have hcpB : ∀ ty dc sc, (Builtin.copy_ #[40, 40] ty #[.slice (some ⟨w.heap.size, (i + 1) * 2, none⟩) (n - i) dc, .slice (some ⟨b, i * 2, none⟩) (n - i) sc]).run Tryz.prog W1.drew = .ok (goInt ((n - i : Nat) : Int)) W2 := fun ty dc sc =>
    run_copyZ Tryz.underlying40 hi0 hzs w.heap.size ((i + 1) * 2) _ dc ⟨b, i * 2, none⟩ _ sc (n - i) tail (by simp only [Nat.min_def]; split <;> omega) htl (fun j v hj => by rw [Addr.add_lit]; exact cell_of hbB (htg j v hj)) hst2
  have UU : Upd (w.alloc (.cells ROW 160)) W2 w.heap.size ROW (arrSet (arrSet ROW (i * 2) vs) ((i + 1) * 2) tail) 160 (0, 0) :=
    ⟨U2.os.trans U1.os, U2.tape.trans U1.tape, U2.output.trans U1.output, U2.size.trans U1.size, fun k hk => (U2.other k hk).trans (U1.other k hk), U1.old, U2.new, U2.len.trans U1.len⟩
  have hw1 : IntKind.i64.wrap ((i : Int) + 1) = (i : Int) + 1 := by rw [IntKind.wrap_i64]; omega
  have hw2 : IntKind.i64.wrap ((n : Int) + 1) = (n : Int) + 1 := by rw [IntKind.wrap_i64]; omega
  have hb1 : (0 : Int) ≤ (i : Int) + 1 := by omega
  have hin : i ≤ n := by omega
  have htn : ((i : Int) + 1).toNat = i + 1 := by omega
  have hb3 : (i : Int) ≤ (n : Int) := by omega
  have hGi : ¬ (G = i) := by omega
  have hGim : ¬ (G = i + 1) := by omega
  have hci : ¬ (c = i) := by omega
  clear hkk hik hold hG hROW U1 U2 hst1 hst2 ht1 htg htl htail hRl hNew U1d hvA hbB hog hol holds hbd
  go_enter Tryz.func275, Tryz.ntmps275
  go_wp2_with (first
    | (at_builtin; refine Lib.wpList_append_run _ rfl _ _ _ _ rfl _ _ rfl rfl _ _ (hrz _) ?_)
    | (at_builtin; refine wpList_copy_runI _ rfl _ _ 40 40 rfl _ _ rfl rfl (hcpA _ _) ?_))
  go_region_law_o (refine step_copy_runI rfl _ _ 40 40 rfl _ _ (by simp [Act.eval, Act.put]) (by simp [Act.eval, Act.put]) (hcpB _ _ _) ?_)
  go_wp2
  go_ret
  exact ⟨rfl, ROW, rfl, UU⟩

set_option maxHeartbeats 4000000 in
set_option maxRecDepth 100000 in
/-- Ahead of the end, no room: a new row. -/
theorem Tryz.insGrow224 (b n c i vb vc : Nat) (cur vcur : Array Value) (T TV : TypeId) (fr : Nat × Nat) (vs : List Value) (w : World) (hi : i < n) (hnc : n ≤ c) (hroom : c < n + 1) (hbig : (n + 1) * 40 ≤ 140737488355328) (hb : w.heap[b]? = some (.cells cur T fr)) (hv : w.heap[vb]? = some (.cells vcur TV (0, 0)))
    (hcs : c * 3 ≤ cur.size) (hvl : vs.length = 3) (hvs : ∀ (j : Nat) (v : Value), vs[j]? = some v → vcur[j]? = some v) (h1c : ∀ j, j < n * 3 → (cur.getD j undef).oneCell' = true) (h1v : ∀ v ∈ vs, v.oneCell' = true) :
    Calls Tryz.prog 224 #[.slice (some ⟨b, 0, none⟩) n c, .int .i64 i, .slice (some ⟨vb, 0, none⟩) 1 vc] w fun e w' =>
      e = .returned (.slice (some ⟨w.heap.size, 0, none⟩) (n + 1) (grownCap w (n + 1) c 186)) ∧
      ∃ ROW : Array Value, ROW = (cur.toList.take (i * 3)).toArray ++ Builtin.zeroCells (Value.agg #[Value.string { data := #[] }, Value.int IntKind.i64 0, Value.string { data := #[] }]).cells (n + 1 - i) ++ Builtin.zeroCells (Value.agg #[Value.string { data := #[] }, Value.int IntKind.i64 0, Value.string { data := #[] }]).cells (grownCap w (n + 1) c 186 - (n + 1)) ∧
        Upd (w.alloc (.cells ROW 186)) w' w.heap.size ROW (arrSet (arrSet ROW (i * 3) vs) ((i + 1) * 3) ((cur.toList.drop (i * 3)).take ((n - i) * 3))) 186 (0, 0) := by
  obtain ⟨i0, hi0, hz0, hzs, hzb⟩ := info_parts Tryz.infoI186
  have u0 : ∀ w, Sem.run Tryz.prog (underlying 202) w = .ok (TypeDesc.slice 186) w := run_underlying Tryz.underlying202
  have mixed : Tryz.prog.follows .mixedOrders = true := by kernel_rfl
  have hz2 : ¬ ((i : Int) = (n : Int)) := by omega
  have hz3 : (c : Int) < (n : Int) + 1 := by omega
  have hkk : (n : Int) + 1 - (i : Int) = ((n + 1 - i : Nat) : Int) := by omega
  have hik : i + (n + 1 - i) = n + 1 := by omega
  obtain ⟨olds, holds⟩ : ∃ olds, olds = cur.toList.take (i * 3) := ⟨_, rfl⟩
  have hol : olds.length = i * 3 := by rw [holds, List.length_take, Array.length_toList]; omega
  have hbd : w.drew.heap[b]? = some (.cells cur T fr) := hb
  have hog : ∀ (j : Nat) (v : Value), olds[j]? = some v → cur[j]? = some v := fun j v hj => by
    have hjl := (List.getElem?_eq_some_iff.1 hj).1
    rw [holds, List.getElem?_take_of_lt (by omega), Array.getElem?_toList] at hj
    exact hj
  have hold : (Builtin.firstCells i0.size i (.slice (some ⟨b, 0, none⟩) i c)).run Tryz.prog w.drew = .ok olds.toArray w.drew := by
    rw [hzs]
    exact run_firstCells_some w.drew 3 i ⟨b, 0, none⟩ i c olds hol (fun j v hj => by rw [Addr.add_lit, Nat.zero_add]; exact cell_of hbd (hog j v hj))
  obtain ⟨G, hG⟩ : ∃ G, G = grownCap w (n + 1) c 186 := ⟨_, rfl⟩
  have hrz : ∀ ty, (Builtin.append_ #[202, 3] ty #[.slice (some ⟨b, 0, none⟩) i c, .int .i64 ((n : Int) + 1 - (i : Int))]).run Tryz.prog w =
      .ok (.slice (some ⟨w.heap.size, 0, none⟩) (n + 1) G) (w.drew.alloc (.cells (olds.toArray ++ Builtin.zeroCells (Value.agg #[Value.string { data := #[] }, Value.int IntKind.i64 0, Value.string { data := #[] }]).cells (n + 1 - i) ++ Builtin.zeroCells (Value.agg #[Value.string { data := #[] }, Value.int IntKind.i64 0, Value.string { data := #[] }]).cells (G - (n + 1))) 186)) := fun ty => by
    have h := Lib.run_append_grow_zeros w 202 3 ty 186 i0 _ .i64 .i64 Tryz.underlying202 Tryz.underlying3 hi0 hz0 (some ⟨b, 0, none⟩) i c olds hold (n + 1 - i) (by omega) (by omega) (by omega) (by omega) (by rw [hzb]; omega) (by rw [hzb, hik]; exact growslice_fits hroom hbig)
    rw [hik] at h
    rw [hkk, hG]
    exact h
  have hGn : n + 1 ≤ G := by rw [hG]; exact grownCap_ge w _ _ _
  have hG63 : G ≤ 9223372036854775807 := by
    have := grownCap_le_maxLen w (n + 1) c 186 (by unfold maxLen; omega)
    rw [← hG] at this
    unfold maxLen at this
    omega
  rw [← holds, ← hG]
  obtain ⟨ROW, hROW⟩ : ∃ ROW : Array Value, ROW = olds.toArray ++ Builtin.zeroCells (Value.agg #[Value.string { data := #[] }, Value.int IntKind.i64 0, Value.string { data := #[] }]).cells (n + 1 - i) ++ Builtin.zeroCells (Value.agg #[Value.string { data := #[] }, Value.int IntKind.i64 0, Value.string { data := #[] }]).cells (G - (n + 1)) := ⟨_, rfl⟩
  rw [← hROW] at hrz ⊢
  have hRl : ROW.size = G * 3 := by
    rw [hROW, Array.size_append, Array.size_append, size_zeroCells, size_zeroCells, List.size_toArray, hol]
    simp only [Value.cells, List.size_toArray, List.length_cons, List.length_nil]
    omega
  obtain ⟨tail, htail⟩ : ∃ tail, tail = (cur.toList.drop (i * 3)).take ((n - i) * 3) := ⟨_, rfl⟩
  have htl : tail.length = (n - i) * 3 := by rw [htail, List.length_take, List.length_drop, Array.length_toList]; omega
  have htg : ∀ (j : Nat) (v : Value), tail[j]? = some v → cur[i * 3 + j]? = some v := fun j v hj => by
    have hjl := (List.getElem?_eq_some_iff.1 hj).1
    rw [htail, List.getElem?_take_of_lt (by omega), List.getElem?_drop, Array.getElem?_toList] at hj
    exact hj
  have ht1 : ∀ v ∈ tail, v.oneCell' = true := fun v hv => by
    obtain ⟨j, hj, e⟩ := List.getElem_of_mem hv
    have h2 := htg j v (by rw [List.getElem?_eq_getElem hj, e])
    have := h1c (i * 3 + j) (by omega)
    rw [arr_getD, h2] at this
    exact this
  rw [← htail]
  have hbw : b < w.heap.size := heap_lt hb
  have hvw : vb < w.heap.size := heap_lt hv
  have hNew : (w.drew.alloc (.cells ROW 186)).heap[w.heap.size]? = some (.cells ROW 186 (0, 0)) := heap_alloc_new w.drew _
  obtain ⟨W1, hst1, U1⟩ := run_stores Tryz.prog w.heap.size (i * 3) vs 0 ROW _ hNew (by omega) (fun j _ _ h => by omega) h1v
  rw [Nat.add_zero] at U1
  have U1d : W1.drew.heap[w.heap.size]? = some (.cells (arrSet ROW (i * 3) vs) 186 (0, 0)) := U1.new
  obtain ⟨W2, hst2, U2⟩ := run_stores Tryz.prog w.heap.size ((i + 1) * 3) tail 0 _ W1.drew U1d (by rw [htl, U1.len]; omega) (fun j _ _ h => by omega) ht1
  rw [Nat.add_zero] at U2
  have hvA : (w.drew.alloc (.cells ROW 186)).heap[vb]? = some (.cells vcur TV (0, 0)) := (heap_alloc_old w.drew _ hvw).trans hv
  have hbB : W1.drew.heap[b]? = some (.cells cur T fr) := (U1.other b (by omega)).trans ((heap_alloc_old w.drew _ hbw).trans hb)
  have hcpA : ∀ ty dc, (Builtin.copy_ #[202, 202] ty #[.slice (some ⟨w.heap.size, i * 3, none⟩) (n + 1 - i) dc, .slice (some ⟨vb, 0, none⟩) 1 vc]).run Tryz.prog (w.alloc (.cells ROW 186)).drew = .ok (goInt 1) W1 := fun ty dc =>
    run_copyZ (w := w.drew.alloc (.cells ROW 186)) Tryz.underlying202 hi0 hzs w.heap.size (i * 3) _ dc ⟨vb, 0, none⟩ _ vc 1 vs (by simp only [Nat.min_def]; split <;> omega) (by omega) (fun j v hj => by rw [Addr.add_lit, Nat.zero_add]; exact cell_of hvA (hvs j v hj)) hst1
  have hcpB : ∀ ty dc sc, (Builtin.copy_ #[202, 202] ty #[.slice (some ⟨w.heap.size, (i + 1) * 3, none⟩) (n - i) dc, .slice (some ⟨b, i * 3, none⟩) (n - i) sc]).run Tryz.prog W1.drew = .ok (goInt ((n - i : Nat) : Int)) W2 := fun ty dc sc =>
    run_copyZ Tryz.underlying202 hi0 hzs w.heap.size ((i + 1) * 3) _ dc ⟨b, i * 3, none⟩ _ sc (n - i) tail (by simp only [Nat.min_def]; split <;> omega) htl (fun j v hj => by rw [Addr.add_lit]; exact cell_of hbB (htg j v hj)) hst2
  have UU : Upd (w.alloc (.cells ROW 186)) W2 w.heap.size ROW (arrSet (arrSet ROW (i * 3) vs) ((i + 1) * 3) tail) 186 (0, 0) :=
    ⟨U2.os.trans U1.os, U2.tape.trans U1.tape, U2.output.trans U1.output, U2.size.trans U1.size, fun k hk => (U2.other k hk).trans (U1.other k hk), U1.old, U2.new, U2.len.trans U1.len⟩
  have hw1 : IntKind.i64.wrap ((i : Int) + 1) = (i : Int) + 1 := by rw [IntKind.wrap_i64]; omega
  have hw2 : IntKind.i64.wrap ((n : Int) + 1) = (n : Int) + 1 := by rw [IntKind.wrap_i64]; omega
  have hb1 : (0 : Int) ≤ (i : Int) + 1 := by omega
  have hin : i ≤ n := by omega
  have htn : ((i : Int) + 1).toNat = i + 1 := by omega
  have hb3 : (i : Int) ≤ (n : Int) := by omega
  have hGi : ¬ (G = i) := by omega
  have hGim : ¬ (G = i + 1) := by omega
  have hci : ¬ (c = i) := by omega
  clear hkk hik hold hG hROW U1 U2 hst1 hst2 ht1 htg htl htail hRl hNew U1d hvA hbB hog hol holds hbd
  go_enter Tryz.func224, Tryz.ntmps224
  go_wp2_with (first
    | (at_builtin; refine Lib.wpList_append_run _ rfl _ _ _ _ rfl _ _ rfl rfl _ _ (hrz _) ?_)
    | (at_builtin; refine wpList_copy_runI _ rfl _ _ 202 202 rfl _ _ rfl rfl (hcpA _ _) ?_))
  go_region_law_o (refine step_copy_runI rfl _ _ 202 202 rfl _ _ (by simp [Act.eval, Act.put]) (by simp [Act.eval, Act.put]) (hcpB _ _ _) ?_)
  go_wp2
  go_ret
  exact ⟨rfl, ROW, rfl, UU⟩
end Go.Proofs
