/-
  slices.Insert of one element: what the machine does. Printed.
-/
import Derived.Test.YtdnblconoegeaaaGreatDoorVxI
set_option linter.all false
namespace Go.Proofs
open Go Go.Shelf Go.RowKit Go.Lib Go.VS

theorem Tryz.infoI160 : (Tryz.prog.info? 160).map (fun i => (i.zero, i.size, i.bytes)) = some (some (Value.agg #[Value.int IntKind.i64 0, Value.string { data := #[] }]), 2, 24) := by kernel_rfl
set_option maxHeartbeats 4000000 in
set_option maxRecDepth 100000 in
theorem Tryz.insShift275 (b n c i vb vc : Nat) (cur vcur : Array Value) (T TV : TypeId) (vs : List Value) (w : World) (hi : i < n) (hroom : n + 1 ≤ c) (hc63 : c ≤ 9223372036854775807) (hvb : vb ≠ b) (hb : w.heap[b]? = some (.cells cur T (0, 0))) (hv : w.heap[vb]? = some (.cells vcur TV (0, 0)))
    (hcs : c * 2 ≤ cur.size) (hvl : vs.length = 2) (hvs : ∀ (j : Nat) (v : Value), vs[j]? = some v → vcur[j]? = some v) (h1c : ∀ j, j < n * 2 → (cur.getD j undef).oneCell' = true) (h1v : ∀ v ∈ vs, v.oneCell' = true) :
    Calls Tryz.prog 275 #[.slice (some ⟨b, 0, none⟩) n c, .int .i64 i, .slice (some ⟨vb, 0, none⟩) 1 vc] w fun e w' =>
      e = .returned (.slice (some ⟨b, 0, none⟩) (n + 1) c) ∧ Upd w w' b cur (arrSet (arrSet cur ((i + 1) * 2) ((cur.toList.drop (i * 2)).take ((n - i) * 2))) (i * 2) vs) T (0, 0) := by
  obtain ⟨i0, hi0, hz0, hzs, hzb⟩ := info_parts Tryz.infoI160
  have u0 : ∀ w, Sem.run Tryz.prog (underlying 40) w = .ok (TypeDesc.slice 160) w := run_underlying Tryz.underlying40
  have hz2 : ¬ ((i : Int) = (n : Int)) := by omega
  have hov : ∀ la ca lb cb, (callFunc 317 #[.slice (some ⟨vb, 0, none⟩) la ca, .slice (some ⟨b, (i + 1) * 2, none⟩) lb cb]).run Tryz.prog w = .ok (.value (.bool false)) w := fun la ca lb cb => by
    have hkB : cur.size ≠ 0 := by omega
    rw [run_callFunc_extern Tryz.func317 (by kernel_rfl) (by kernel_rfl) (by kernel_rfl) (e := Extern.SlicesOverlaps.overlaps #[40, 40] #[4]) (by kernel_rfl),
      Lib.run_overlaps_apart w 40 4 160 Tryz.underlying40 2 Tryz.sizeOf160 ⟨vb, 0, none⟩ ⟨b, (i + 1) * 2, none⟩ la ca lb cb hvb TV T vcur.size cur.size (by simp [World.shape?, hv]) (by simp [World.shape?, hb]) hkB (by simp [World.frozen?, hv]) (by simp [World.frozen?, hv])]
    rfl
  obtain ⟨tail, htail⟩ : ∃ tail, tail = (cur.toList.drop (i * 2)).take ((n - i) * 2) := ⟨_, rfl⟩
  have htl : tail.length = (n - i) * 2 := by rw [htail, List.length_take, List.length_drop, Array.length_toList]; omega
  have htg : ∀ (j : Nat) (v : Value), tail[j]? = some v → cur[i * 2 + j]? = some v := fun j v hj => by
    have hjl := (List.getElem?_eq_some_iff.1 hj).1
    rw [htail, List.getElem?_take_of_lt (by omega), List.getElem?_drop, Array.getElem?_toList] at hj
    exact hj
  have ht1 : ∀ v ∈ tail, v.oneCell' = true := fun v hv => by
    obtain ⟨j, hj, e⟩ := List.getElem_of_mem hv
    have h2 := htg j v (by rw [List.getElem?_eq_getElem hj, e])
    have := h1c (i * 2 + j) (by omega)
    rw [arr_getD, h2] at this
    exact this
  rw [← htail]
  have hbd : w.drew.heap[b]? = some (.cells cur T (0, 0)) := hb
  obtain ⟨W1, hst1, U1⟩ := run_stores Tryz.prog b ((i + 1) * 2) tail 0 cur w.drew hbd (by rw [htl]; omega) (fun j _ _ h => by omega) ht1
  rw [Nat.add_zero] at U1
  obtain ⟨W2, hst2, U2⟩ := run_stores Tryz.prog b (i * 2) vs 0 _ W1 U1.new (by rw [hvl, U1.len]; omega) (fun j _ _ h => by omega) h1v
  rw [Nat.add_zero] at U2
  have hv1 : W1.heap[vb]? = some (.cells vcur TV (0, 0)) := (U1.other vb hvb).trans hv
  have hcp1 : ∀ ty dc sc, (Builtin.copy_ #[40, 40] ty #[.slice (some ⟨b, (i + 1) * 2, none⟩) (n - i) dc, .slice (some ⟨b, i * 2, none⟩) (n + 1 - i) sc]).run Tryz.prog w.drew = .ok (goInt ((n - i : Nat) : Int)) W1 := fun ty dc sc =>
    run_copyZ Tryz.underlying40 hi0 hzs b ((i + 1) * 2) _ dc ⟨b, i * 2, none⟩ _ sc (n - i) tail (by simp only [Nat.min_def]; split <;> omega) htl (fun j v hj => by rw [Addr.add_lit]; exact cell_of hbd (htg j v hj)) hst1
  have hcp2 : ∀ ty dc, (Builtin.copy_ #[40, 40] ty #[.slice (some ⟨b, i * 2, none⟩) (n + 1 - i) dc, .slice (some ⟨vb, 0, none⟩) 1 vc]).run Tryz.prog W1 = .ok (goInt 1) W2 := fun ty dc =>
    run_copyZ Tryz.underlying40 hi0 hzs b (i * 2) _ dc ⟨vb, 0, none⟩ _ vc 1 vs (by simp only [Nat.min_def]; split <;> omega) (by omega) (fun j v hj => by rw [Addr.add_lit, Nat.zero_add]; exact cell_of hv1 (hvs j v hj)) hst2
  have mixed : Tryz.prog.follows .mixedOrders = true := by kernel_rfl
  have hw1 : IntKind.i64.wrap ((i : Int) + 1) = (i : Int) + 1 := by rw [IntKind.wrap_i64]; omega
  have hw2 : IntKind.i64.wrap ((n : Int) + 1) = (n : Int) + 1 := by rw [IntKind.wrap_i64]; omega
  have hb1 : (0 : Int) ≤ (i : Int) + 1 := by omega
  have hin : i ≤ n := by omega
  have htn : ((i : Int) + 1).toNat = i + 1 := by omega
  have hb2 : ¬ (c = i + 1) := by omega
  have hb3 : (i : Int) ≤ (n : Int) + 1 := by omega
  have hb4 : ¬ (c = i) := by omega
  have UU : Upd w W2 b cur (arrSet (arrSet cur ((i + 1) * 2) tail) (i * 2) vs) T (0, 0) := by
    have U3 := U1.trans U2
    exact ⟨U3.os, U3.tape, U3.output, U3.size, U3.other, hb, U3.new, U3.len⟩
  clear U1 U2 hst1 hst2 ht1 htg htl htail
  go_enter Tryz.func275, Tryz.ntmps275
  go_wp2_with (simp only [hov])
  go_region_law_o (refine step_copy_runI rfl _ _ 40 40 rfl _ _ (by simp [Act.eval, Act.put]) (by simp [Act.eval, Act.put]) (hcp1 _ _ _) ?_)
  go_wp2_with (at_builtin; refine wpList_copy_runI _ rfl _ _ 40 40 rfl _ _ rfl rfl (hcp2 _ _) ?_)
  go_ret
  exact ⟨rfl, UU⟩

theorem Tryz.infoI186 : (Tryz.prog.info? 186).map (fun i => (i.zero, i.size, i.bytes)) = some (some (Value.agg #[Value.string { data := #[] }, Value.int IntKind.i64 0, Value.string { data := #[] }]), 3, 40) := by kernel_rfl
set_option maxHeartbeats 4000000 in
set_option maxRecDepth 100000 in
theorem Tryz.insShift224 (b n c i vb vc : Nat) (cur vcur : Array Value) (T TV : TypeId) (vs : List Value) (w : World) (hi : i < n) (hroom : n + 1 ≤ c) (hc63 : c ≤ 9223372036854775807) (hvb : vb ≠ b) (hb : w.heap[b]? = some (.cells cur T (0, 0))) (hv : w.heap[vb]? = some (.cells vcur TV (0, 0)))
    (hcs : c * 3 ≤ cur.size) (hvl : vs.length = 3) (hvs : ∀ (j : Nat) (v : Value), vs[j]? = some v → vcur[j]? = some v) (h1c : ∀ j, j < n * 3 → (cur.getD j undef).oneCell' = true) (h1v : ∀ v ∈ vs, v.oneCell' = true) :
    Calls Tryz.prog 224 #[.slice (some ⟨b, 0, none⟩) n c, .int .i64 i, .slice (some ⟨vb, 0, none⟩) 1 vc] w fun e w' =>
      e = .returned (.slice (some ⟨b, 0, none⟩) (n + 1) c) ∧ Upd w w' b cur (arrSet (arrSet cur ((i + 1) * 3) ((cur.toList.drop (i * 3)).take ((n - i) * 3))) (i * 3) vs) T (0, 0) := by
  obtain ⟨i0, hi0, hz0, hzs, hzb⟩ := info_parts Tryz.infoI186
  have u0 : ∀ w, Sem.run Tryz.prog (underlying 202) w = .ok (TypeDesc.slice 186) w := run_underlying Tryz.underlying202
  have hz2 : ¬ ((i : Int) = (n : Int)) := by omega
  have hov : ∀ la ca lb cb, (callFunc 295 #[.slice (some ⟨vb, 0, none⟩) la ca, .slice (some ⟨b, (i + 1) * 3, none⟩) lb cb]).run Tryz.prog w = .ok (.value (.bool false)) w := fun la ca lb cb => by
    have hkB : cur.size ≠ 0 := by omega
    rw [run_callFunc_extern Tryz.func295 (by kernel_rfl) (by kernel_rfl) (by kernel_rfl) (e := Extern.SlicesOverlaps.overlaps #[202, 202] #[4]) (by kernel_rfl),
      Lib.run_overlaps_apart w 202 4 186 Tryz.underlying202 3 Tryz.sizeOf186 ⟨vb, 0, none⟩ ⟨b, (i + 1) * 3, none⟩ la ca lb cb hvb TV T vcur.size cur.size (by simp [World.shape?, hv]) (by simp [World.shape?, hb]) hkB (by simp [World.frozen?, hv]) (by simp [World.frozen?, hv])]
    rfl
  obtain ⟨tail, htail⟩ : ∃ tail, tail = (cur.toList.drop (i * 3)).take ((n - i) * 3) := ⟨_, rfl⟩
  have htl : tail.length = (n - i) * 3 := by rw [htail, List.length_take, List.length_drop, Array.length_toList]; omega
  have htg : ∀ (j : Nat) (v : Value), tail[j]? = some v → cur[i * 3 + j]? = some v := fun j v hj => by
    have hjl := (List.getElem?_eq_some_iff.1 hj).1
    rw [htail, List.getElem?_take_of_lt (by omega), List.getElem?_drop, Array.getElem?_toList] at hj
    exact hj
  have ht1 : ∀ v ∈ tail, v.oneCell' = true := fun v hv => by
    obtain ⟨j, hj, e⟩ := List.getElem_of_mem hv
    have h2 := htg j v (by rw [List.getElem?_eq_getElem hj, e])
    have := h1c (i * 3 + j) (by omega)
    rw [arr_getD, h2] at this
    exact this
  rw [← htail]
  have hbd : w.drew.heap[b]? = some (.cells cur T (0, 0)) := hb
  obtain ⟨W1, hst1, U1⟩ := run_stores Tryz.prog b ((i + 1) * 3) tail 0 cur w.drew hbd (by rw [htl]; omega) (fun j _ _ h => by omega) ht1
  rw [Nat.add_zero] at U1
  obtain ⟨W2, hst2, U2⟩ := run_stores Tryz.prog b (i * 3) vs 0 _ W1 U1.new (by rw [hvl, U1.len]; omega) (fun j _ _ h => by omega) h1v
  rw [Nat.add_zero] at U2
  have hv1 : W1.heap[vb]? = some (.cells vcur TV (0, 0)) := (U1.other vb hvb).trans hv
  have hcp1 : ∀ ty dc sc, (Builtin.copy_ #[202, 202] ty #[.slice (some ⟨b, (i + 1) * 3, none⟩) (n - i) dc, .slice (some ⟨b, i * 3, none⟩) (n + 1 - i) sc]).run Tryz.prog w.drew = .ok (goInt ((n - i : Nat) : Int)) W1 := fun ty dc sc =>
    run_copyZ Tryz.underlying202 hi0 hzs b ((i + 1) * 3) _ dc ⟨b, i * 3, none⟩ _ sc (n - i) tail (by simp only [Nat.min_def]; split <;> omega) htl (fun j v hj => by rw [Addr.add_lit]; exact cell_of hbd (htg j v hj)) hst1
  have hcp2 : ∀ ty dc, (Builtin.copy_ #[202, 202] ty #[.slice (some ⟨b, i * 3, none⟩) (n + 1 - i) dc, .slice (some ⟨vb, 0, none⟩) 1 vc]).run Tryz.prog W1 = .ok (goInt 1) W2 := fun ty dc =>
    run_copyZ Tryz.underlying202 hi0 hzs b (i * 3) _ dc ⟨vb, 0, none⟩ _ vc 1 vs (by simp only [Nat.min_def]; split <;> omega) (by omega) (fun j v hj => by rw [Addr.add_lit, Nat.zero_add]; exact cell_of hv1 (hvs j v hj)) hst2
  have mixed : Tryz.prog.follows .mixedOrders = true := by kernel_rfl
  have hw1 : IntKind.i64.wrap ((i : Int) + 1) = (i : Int) + 1 := by rw [IntKind.wrap_i64]; omega
  have hw2 : IntKind.i64.wrap ((n : Int) + 1) = (n : Int) + 1 := by rw [IntKind.wrap_i64]; omega
  have hb1 : (0 : Int) ≤ (i : Int) + 1 := by omega
  have hin : i ≤ n := by omega
  have htn : ((i : Int) + 1).toNat = i + 1 := by omega
  have hb2 : ¬ (c = i + 1) := by omega
  have hb3 : (i : Int) ≤ (n : Int) + 1 := by omega
  have hb4 : ¬ (c = i) := by omega
  have UU : Upd w W2 b cur (arrSet (arrSet cur ((i + 1) * 3) tail) (i * 3) vs) T (0, 0) := by
    have U3 := U1.trans U2
    exact ⟨U3.os, U3.tape, U3.output, U3.size, U3.other, hb, U3.new, U3.len⟩
  clear U1 U2 hst1 hst2 ht1 htg htl htail
  go_enter Tryz.func224, Tryz.ntmps224
  go_wp2_with (simp only [hov])
  go_region_law_o (refine step_copy_runI rfl _ _ 202 202 rfl _ _ (by simp [Act.eval, Act.put]) (by simp [Act.eval, Act.put]) (hcp1 _ _ _) ?_)
  go_wp2_with (at_builtin; refine wpList_copy_runI _ rfl _ _ 202 202 rfl _ _ rfl rfl (hcp2 _ _) ?_)
  go_ret
  exact ⟨rfl, UU⟩
end Go.Proofs
