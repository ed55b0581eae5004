/-
  slices.Insert of a page, of a link: its word.
-/
import Derived.Test.YtdnblconoegeaaaGreatDoorVxK5
set_option linter.all false
namespace Go.VS
open Go Go.Proofs Go.RowKit
set_option linter.unusedSimpArgs false

structure InsM (f : FuncId) (te : TypeId) (z : Nat) (zv : Value) : Prop where
  shift : ∀ (b n c i vb vc : Nat) (cur vcur : Array Value) (T TV : TypeId) (vs : List Value) (w : World), i < n → n + 1 ≤ c → c ≤ 9223372036854775807 → vb ≠ b → w.heap[b]? = some (.cells cur T (0, 0)) → w.heap[vb]? = some (.cells vcur TV (0, 0)) → c * z ≤ cur.size → vs.length = z → (∀ (j : Nat) (v : Value), vs[j]? = some v → vcur[j]? = some v) → (∀ j, j < n * z → (cur.getD j undef).oneCell' = true) → (∀ v ∈ vs, v.oneCell' = true) →
    Calls Tryz.prog f #[.slice (some ⟨b, 0, none⟩) n c, .int .i64 i, .slice (some ⟨vb, 0, none⟩) 1 vc] w fun e w' => e = .returned (.slice (some ⟨b, 0, none⟩) (n + 1) c) ∧ Upd w w' b cur (arrSet (arrSet cur ((i + 1) * z) (insTail cur i z n)) (i * z) vs) T (0, 0)
  room : ∀ (b n c vb vc : Nat) (cur vcur : Array Value) (T TV : TypeId) (vs : List Value) (w : World), n + 1 ≤ c → c ≤ 9223372036854775807 → w.heap[b]? = some (.cells cur T (0, 0)) → w.heap[vb]? = some (.cells vcur TV (0, 0)) → c * z ≤ cur.size → vs.length = z → (∀ (j : Nat) (v : Value), vs[j]? = some v → vcur[j]? = some v) → (∀ v ∈ vs, v.oneCell' = true) →
    Calls Tryz.prog f #[.slice (some ⟨b, 0, none⟩) n c, .int .i64 n, .slice (some ⟨vb, 0, none⟩) 1 vc] w fun e w' => e = .returned (.slice (some ⟨b, 0, none⟩) (n + 1) c) ∧ Upd w w' b cur (arrSet cur (n * z) vs) T (0, 0)
  end_ : ∀ (base : Option Addr) (n c vb vc : Nat) (vcur : Array Value) (TV : TypeId) (olds vs : List Value) (w : World), n ≤ c → c < n + 1 → n + 1 ≤ lim → olds.length = n * z → (base = none → n = 0) → (∀ a, base = some a → ∀ (j : Nat) (v : Value), olds[j]? = some v → w.cell? (a.add j) = some v) → w.heap[vb]? = some (.cells vcur TV (0, 0)) → vs.length = z → (∀ (j : Nat) (v : Value), vs[j]? = some v → vcur[j]? = some v) → (∀ v ∈ vs, v.oneCell' = true) →
    Calls Tryz.prog f #[.slice base n c, .int .i64 n, .slice (some ⟨vb, 0, none⟩) 1 vc] w fun e w' => e = .returned (.slice (some ⟨w.heap.size, 0, none⟩) (n + 1) (grownCap w (n + 1) c te)) ∧
      w' = w.drew.alloc (.cells (olds.toArray ++ vs.toArray ++ Builtin.zeroCells zv.cells (grownCap w (n + 1) c te - (n + 1))) te)
  grow : ∀ (b n c i vb vc : Nat) (cur vcur : Array Value) (T TV : TypeId) (fr : Nat × Nat) (vs : List Value) (w : World), i < n → n ≤ c → c < n + 1 → n + 1 ≤ lim → w.heap[b]? = some (.cells cur T fr) → w.heap[vb]? = some (.cells vcur TV (0, 0)) → c * z ≤ cur.size → vs.length = z → (∀ (j : Nat) (v : Value), vs[j]? = some v → vcur[j]? = some v) → (∀ j, j < n * z → (cur.getD j undef).oneCell' = true) → (∀ v ∈ vs, v.oneCell' = true) →
    Calls Tryz.prog f #[.slice (some ⟨b, 0, none⟩) n c, .int .i64 i, .slice (some ⟨vb, 0, none⟩) 1 vc] w fun e w' => e = .returned (.slice (some ⟨w.heap.size, 0, none⟩) (n + 1) (grownCap w (n + 1) c te)) ∧
      ∃ ROW : Array Value, ROW = (cur.toList.take (i * z)).toArray ++ Builtin.zeroCells zv.cells (n + 1 - i) ++ Builtin.zeroCells zv.cells (grownCap w (n + 1) c te - (n + 1)) ∧
        Upd (w.alloc (.cells ROW te)) w' w.heap.size ROW (arrSet (arrSet ROW (i * z) vs) ((i + 1) * z) (insTail cur i z n)) te (0, 0)

theorem getD_some' {l : List Value} {j : Nat} {v : Value} (h : l[j]? = some v) : l.getD j undef = v := by rw [List.getD_eq_getElem?_getD, h]; rfl
theorem below_upd {w w' : World} {o : Obj} {cc cc' : Array Value} {T : TypeId} {fr : Nat × Nat} (U : Upd (w.alloc o) w' w.heap.size cc cc' T fr) : Below w.heap.size w w' :=
  ⟨U.os, U.tape, U.output, by rw [U.size]; simp, fun k hk => by rw [U.other k (by omega)]; exact heap_alloc_old w o hk⟩

theorem good_insert {W : World} {f : FuncId} {te : TypeId} {z : Nat} {zv : Value} (hz1 : z ≠ 1) (hz0 : 0 < z) (hzv : zv.cells.size = z) (hcall : ∀ args w, (callFunc f args).run Tryz.prog w = .ok (.enter f args) w) (M : InsM f te z zv)
    (s : St) (o : Out) (he : nInsert z s = some o) : Good Tryz.prog phi ⟨W.heap.size, Tryz.prog⟩ (oldJ W) false f s o := by
  -- the element's row
  have elem : ∀ {cx : Cx} {t : List V} {r : List Rw} {a : Act} {w : World} {h : Gh} {id : Nat} {tg : Bool} {v : V} {y : Value}, Sim phi ⟨W.heap.size, Tryz.prog⟩ cx ⟨t, [], r⟩ a w h → r[id]? = some (.row z false [v]) → VOk phi w h (.sl id 0 1 tg) y →
      ∃ vb vc vcur TV, y = .slice (some ⟨vb, 0, none⟩) 1 vc ∧ RowAt h ⟨t, [], r⟩ id vb ∧ w.heap[vb]? = some (.cells vcur TV (0, 0)) ∧ v.cells.length = z ∧ ∃ vs : List Value, vs.length = z ∧ (∀ (j : Nat) (u : Value), vs[j]? = some u → vcur[j]? = some u) ∧ (∀ u ∈ vs, u.oneCell' = true) ∧ ∀ j u, v.cells[j]? = some u → POk w h.Rp u (vs.getD j undef) ∧ (vs.getD j undef).oneCell' = true := by
    intro cx t r a w h id tg v y S hr hv
    obtain ⟨A, cap, g, f1, hg, f2, f3, f4, f5, f6⟩ := hv.sl_inv2
    obtain ⟨g', hg', r1, r2, r3, r4⟩ := S.r id z false [v] hr
    rw [hg] at hg'; cases hg'
    have hvl := r3 v (by simp)
    cases hloc : g.loc with
    | none => rw [hloc] at r4; cases r4
    | some bc =>
      obtain ⟨vb, room⟩ := bc
      rw [hloc] at f5 r4
      obtain ⟨cc, T, fr, q1, q2, q3, q4, q5, q6, q7⟩ := r4
      have hA := f5.2 (by omega)
      rw [Nat.zero_mul] at hA
      subst hA
      have hfr := q4.2.2 hz1 rfl
      subst hfr
      have hsz : z ≤ cc.size := by
        rw [q2]
        have := Nat.mul_le_mul_right z (show 1 ≤ room by simpa using q3)
        omega
      have hfv : flat [v] = v.cells := by simp [flat]
      have hone : ∀ j, j < z → (cc.getD j undef).oneCell' = true := fun j hj => (q7 j (v.cells[j]'(by omega)) (by rw [hfv]; exact List.getElem?_eq_getElem _)).2
      have hget : ∀ j, j < z → (cc.toList.take z)[j]? = cc[j]? := fun j hj => by rw [List.getElem?_take_of_lt hj, Array.getElem?_toList]
      refine ⟨vb, cap, cc, T, f1, ⟨z, [v], g, room, hr, hg, hloc⟩, q1, hvl, cc.toList.take z, by rw [List.length_take, Array.length_toList]; omega, fun j u hj => ?_, fun u hu => ?_, fun j u hj => ?_⟩
      · have hjl := (List.getElem?_eq_some_iff.1 hj).1
        rw [List.length_take] at hjl
        rw [hget j (by omega)] at hj; exact hj
      · obtain ⟨j, hj, e⟩ := List.getElem_of_mem hu
        have hjz : j < z := by rw [List.length_take] at hj; omega
        have := hone j hjz
        rw [arr_getD, ← hget j hjz, List.getElem?_eq_getElem hj, Option.getD_some, e] at this
        exact this
      · have hjz : j < z := by rw [← hvl]; exact (List.getElem?_eq_some_iff.1 hj).1
        rw [List.getD_eq_getElem?_getD, hget j hjz, ← arr_getD]
        exact q7 j u (by rw [hfv]; exact hj)
  -- a new row behind old ones
  have fin : ∀ {cx : Cx} {t : List V} {r : List Rw} {a : Act} {w : World} {h : Gh}, Sim phi ⟨W.heap.size, Tryz.prog⟩ cx ⟨t, [], r⟩ a w h → (r = [.gone] ∨ r = [.gone, .gone]) → (∀ id x, cx.G0 id = some x → False) →
      ∀ (xs : List V) (v : V) (base : Option Addr) (c vb vc : Nat) (vcur : Array Value) (TV : TypeId) (olds vs : List Value) (i : Int), xs.length ≤ c → c < xs.length + 1 → xs.length + 1 ≤ lim → i = xs.length → olds.length = xs.length * z → (base = none → xs.length = 0) → (∀ a, base = some a → ∀ (j : Nat) (v : Value), olds[j]? = some v → w.cell? (a.add j) = some v) → w.heap[vb]? = some (.cells vcur TV (0, 0)) → vs.length = z →
      (∀ (j : Nat) (v : Value), vs[j]? = some v → vcur[j]? = some v) → (∀ v ∈ vs, v.oneCell' = true) → (∀ x, x ∈ xs → x.cells.length = z) → v.cells.length = z → noBt xs = true → noBt [v] = true → (∀ j u, (flat xs)[j]? = some u → POk w h.Rp u (olds.getD j undef) ∧ (olds.getD j undef).oneCell' = true) → (∀ j u, v.cells[j]? = some u → POk w h.Rp u (vs.getD j undef) ∧ (vs.getD j undef).oneCell' = true) →
      Calls Tryz.prog f #[.slice base xs.length c, .int .i64 i, .slice (some ⟨vb, 0, none⟩) 1 vc] w fun e w' => ∃ y, e = .returned y ∧ ∃ h', Sim phi ⟨W.heap.size, Tryz.prog⟩ cx ⟨[.sl 0 0 (xs.length + 1) false], [], [.row z false (xs ++ [v])]⟩ ⟨#[y], []⟩ w' h' := by
    intro cx t r a w h S hr hG xs v base c vb vc vcur TV olds vs i h1 h2 h3 hi h4 h5 h6 h7 h8 h9 h10 h11 h12 h13 h14 h15 h16
    subst hi
    refine (M.end_ base xs.length c vb vc vcur TV olds vs w h1 h2 h3 h4 h5 h6 h7 h8 h9 h10).mono ?_
    rintro e w' ⟨rfl, rfl⟩
    have hge := grownCap_ge w (xs.length + 1) c te
    have B : Below w.heap.size w (w.drew.alloc (.cells (olds.toArray ++ vs.toArray ++ Builtin.zeroCells zv.cells (grownCap w (xs.length + 1) c te - (xs.length + 1))) te)) := ⟨rfl, rfl, rfl, by show _ ≤ (w.heap.push _).size; simp, fun k hk => heap_alloc_old w.drew _ hk⟩
    refine ⟨_, rfl, S.insNew hr hG B (heap_alloc_new w.drew _) ?_ ?_ (by simp) hge (grownCap_le_maxLen w _ _ _ (by unfold maxLen; unfold lim at h3; omega)) (by rw [noBt_append, h13, h14]; rfl) ?_⟩
    · intro x hx
      rcases List.mem_append.1 hx with hx | hx
      · exact h11 x hx
      · simp at hx; subst hx; exact h12
    · rw [Array.size_append, Array.size_append, size_zeroCells, hzv, List.size_toArray, List.size_toArray, h4, h8, show xs.length * z + z = (xs.length + 1) * z by rw [Nat.add_mul, Nat.one_mul], ← Nat.add_mul]
      congr 1; omega
    · have hval := ins_vals (R := fun u y => POk w h.Rp u y ∧ y.oneCell' = true) (cur := olds.toArray) (vs := vs) (i := xs.length) h11 h12 (Nat.le_refl _) (fun j u hj => by
        have := h15 j u hj
        rw [arr_getD, List.getElem?_toArray, ← List.getD_eq_getElem?_getD]
        exact this) h16
      rw [List.take_length, List.drop_length] at hval
      intro j u hj
      have hjl : j < xs.length * z + z := by
        have := (List.getElem?_eq_some_iff.1 hj).1
        rw [flat_append, List.length_append, flat_length h11, flat_cons, flat_nil, List.append_nil, h12] at this
        exact this
      rw [ins_end (cur := olds.toArray) h4 (fun j _ => by rw [List.getElem?_toArray]) h8 hjl]
      exact hval j u hj
  unfold nInsert at he
  split at he
  · rename_i i tg z' v
    split at he
    · rename_i hc
      obtain ⟨rfl, rfl, hb⟩ := hc
      cases he
      refine ⟨Nat.le_refl _, rfl, rfl, fun cx a w h hJ hG S => ?_⟩
      have hG' : ∀ id x, cx.G0 id = some x → False := fun id x hx => by have := (hG id x hx).1; cases this
      obtain ⟨y, y2, y3, rfl, v1, v2, v3⟩ := act3 S
      have v1 := v1.nil_inv; subst v1
      have v2 := v2.i_inv; subst v2
      obtain ⟨vb, vc, vcur, TV, rfl, _, hvh, hvl, vs, e1, e2, e3, e4⟩ := elem S (id := 0) rfl v3
      have S1 : Sim phi ⟨W.heap.size, Tryz.prog⟩ cx ⟨_, [], [.gone]⟩ _ w h := S.gone 0
      exact .inl ⟨hcall _ _, fin S1 (.inl rfl) hG' [] v none 0 vb vc vcur TV [] vs 0 (Nat.le_refl _) (by simp) (by simp [lim]) rfl (by simp) (fun _ => rfl) (fun a e => by cases e) hvh e1 e2 e3 (fun x hx => by cases hx) hvl rfl hb (fun j u hj => by simp [flat_nil] at hj) e4⟩
    · cases he
  · rename_i n tg i tg2 z'' xs z' v
    split at he
    · rename_i hc
      obtain ⟨k1, k2, rfl, hi0, hin, hlim, hb, hbx⟩ := hc
      have k1 := k1.symm
      subst k1
      have k2 := k2.symm
      subst k2
      cases he
      obtain ⟨i, rfl⟩ : ∃ k : Nat, i = k := ⟨i.toNat, by omega⟩
      rw [Int.toNat_natCast]
      have hin : i ≤ xs.length := by omega
      refine ⟨Nat.le_refl _, rfl, rfl, fun cx a w h hJ hG S => ?_⟩
      have hG' : ∀ id x, cx.G0 id = some x → False := fun id x hx => by have := (hG id x hx).1; cases this
      obtain ⟨y, y2, y3, rfl, v1, v2, v3⟩ := act3 S
      have v2 := v2.i_inv; subst v2
      obtain ⟨vb, vc, vcur, TV, rfl, hvr, hvh, hvl, vs, e1, e2, e3, e4⟩ := elem S (id := 1) rfl v3
      obtain ⟨A, cap, g, rfl, hg, f2, f3, f4, f5, f6⟩ := v1.sl_inv2
      obtain ⟨g', hg', r1, r2, r3, r4⟩ := S.r 0 _ false xs rfl
      rw [hg] at hg'; cases hg'
      have S1 : Sim phi ⟨W.heap.size, Tryz.prog⟩ cx ⟨_, [], [.row z false xs, .gone]⟩ _ w h := S.gone 1
      have S2 : Sim phi ⟨W.heap.size, Tryz.prog⟩ cx ⟨_, [], [.gone, .gone]⟩ _ w h := S1.gone 0
      have atEnd : i = xs.length → xs.take i ++ v :: xs.drop i = xs ++ [v] := fun e => by subst e; rw [List.take_length, List.drop_length]
      have hlen : (xs.take i ++ v :: xs.drop i).length = xs.length + 1 := by rw [List.length_append, List.length_cons, List.length_take, List.length_drop]; omega
      have hcl : ∀ x, x ∈ xs.take i ++ v :: xs.drop i → x.cells.length = z := fun x hx => by
        rcases List.mem_append.1 hx with hx | hx
        · exact r3 x (List.mem_of_mem_take hx)
        · rcases List.mem_cons.1 hx with rfl | hx
          · exact hvl
          · exact r3 x (List.mem_of_mem_drop hx)
      have hbt : noBt (xs.take i ++ v :: xs.drop i) = true := by
        simp only [noBt_append, noBt_cons, noBt_nil, Bool.and_true] at hb ⊢
        rw [noBt_take hbx, noBt_drop hbx, hb]; rfl
      refine .inl ⟨hcall _ _, ?_⟩
      cases hloc : g.loc with
      | none =>
        rw [hloc] at f5 f6 r4
        have f5 : cap = 0 := f5
        have f6 : A = none := f6
        have r4 : xs = [] := r4
        subst f5 f6 r4
        have : i = 0 := by simpa using hin
        subst this
        exact fin S2 (.inr rfl) hG' [] v none 0 vb vc vcur TV [] vs 0 (Nat.le_refl _) (by simp) (by simp [lim]) rfl (by simp) (fun _ => rfl) (fun a e => by cases e) hvh e1 e2 e3 (fun x hx => by cases hx) hvl rfl hb (fun j u hj => by simp [flat_nil] at hj) e4
      | some bc =>
        obtain ⟨b, room⟩ := bc
        rw [hloc] at f5 f6 r4
        obtain ⟨cur, T, fr, u1, u2, u3, u4, u5, u6, u7⟩ := r4
        have hfr := u4.2.2 hz1 rfl
        subst hfr
        obtain ⟨f5a, f5b⟩ := f5
        by_cases hc0 : cap = 0
        · obtain ⟨off, rfl⟩ := f6
          have hx : xs = [] := List.eq_nil_of_length_eq_zero (by omega)
          subst hx
          have : i = 0 := by simpa using hin
          subst this
          exact fin S2 (.inr rfl) hG' [] v (some ⟨b, off, none⟩) cap vb vc vcur TV [] vs 0 (Nat.zero_le _) (by simp [hc0]) (by simp [lim]) rfl (by simp) (fun _ => rfl) (fun a _ j u hj => by simp at hj) hvh e1 e2 e3 (fun x hx => by cases hx) hvl rfl hb (fun j u hj => by simp [flat_nil] at hj) e4
        have hA := f5b (by omega)
        rw [Nat.zero_mul] at hA
        subst hA
        clear f6
        have hcz : cap * z ≤ cur.size := by rw [u2]; exact Nat.mul_le_mul_right _ (by omega)
        have hnz : xs.length * z ≤ cap * z := Nat.mul_le_mul_right _ f3
        have hfl : (flat xs).length = xs.length * z := flat_length r3
        have h1c : ∀ j, j < xs.length * z → (cur.getD j undef).oneCell' = true := fun j hj => (u7 j ((flat xs)[j]'(by omega)) (List.getElem?_eq_getElem _)).2
        have hval := ins_vals (R := fun u y => POk w h.Rp u y ∧ y.oneCell' = true) (cur := cur) (vs := vs) (i := i) r3 hvl hin u7 e4
        have hvb : vb ≠ b := fun e => by
          subst e
          have := S.sW 0 1 vb ⟨_, xs, g, room, rfl, hg, hloc⟩ hvr
          cases this
        have F : Free ⟨W.heap.size, Tryz.prog⟩ cx ⟨_, [], [.gone, .gone]⟩ w h b := S1.free_row (id := 0) (b := b) ⟨_, xs, g, room, rfl, hg, hloc⟩
        have hjl : ∀ {j u}, (flat (xs.take i ++ v :: xs.drop i))[j]? = some u → j < xs.length * z + z := fun {j u} hj => by
          have := (List.getElem?_eq_some_iff.1 hj).1
          rw [flat_length hcl, hlen, Nat.add_mul, Nat.one_mul] at this
          exact this
        by_cases hfit : xs.length + 1 ≤ cap
        · have hcz1 : xs.length * z + z ≤ cur.size := by
            have := Nat.mul_le_mul_right z hfit
            rw [Nat.add_mul, Nat.one_mul] at this
            omega
          have hmx := u4.1
          by_cases hie : i = xs.length
          · subst hie
            refine (M.room b xs.length cap vb vc cur vcur T TV vs w hfit (by unfold maxLen at hmx; omega) u1 hvh hcz e1 e2 e3).mono ?_
            rintro e w' ⟨rfl, U⟩
            exact ⟨_, rfl, S1.insOld F hG' U hcl u2 hlen hfit (by omega) hmx hbt fun j u hj => by
              rw [ins_room hcz1 e1 (hjl hj)]
              exact hval j u hj⟩
          · refine (M.shift b xs.length cap i vb vc cur vcur T TV vs w (by omega) hfit (by unfold maxLen at hmx; omega) hvb u1 hvh hcz e1 e2 h1c e3).mono ?_
            rintro e w' ⟨rfl, U⟩
            exact ⟨_, rfl, S1.insOld F hG' U hcl u2 hlen hfit (by omega) hmx hbt fun j u hj => by
              rw [ins_shift hin hcz1 e1 (hjl hj)]
              exact hval j u hj⟩
        · by_cases hie : i = xs.length
          · rw [atEnd hie]
            have hol : (cur.toList.take (xs.length * z)).length = xs.length * z := by rw [List.length_take, show cur.toList.length = cur.size from rfl]; omega
            have hog : ∀ j, j < xs.length * z → (cur.toList.take (xs.length * z))[j]? = cur[j]? := fun j hj => by rw [List.getElem?_take_of_lt hj, Array.getElem?_toList]
            refine fin S2 (.inr rfl) hG' xs v (some ⟨b, 0, none⟩) cap vb vc vcur TV (cur.toList.take (xs.length * z)) vs i f3 (by omega) hlim (by rw [hie]) hol (fun e => by cases e) (fun a ea j u hj => ?_) hvh e1 e2 e3 r3 hvl hbx hb (fun j u hj => ?_) e4
            · cases ea
              have hjz : j < xs.length * z := by rw [← hol]; exact (List.getElem?_eq_some_iff.1 hj).1
              rw [hog j hjz] at hj
              rw [Addr.add_lit, Nat.zero_add]
              exact Go.Proofs.cell_of u1 hj
            · have hjz : j < xs.length * z := by rw [← hfl]; exact (List.getElem?_eq_some_iff.1 hj).1
              rw [List.getD_eq_getElem?_getD, hog j hjz, ← arr_getD]
              exact u7 j u hj
          · refine (M.grow b xs.length cap i vb vc cur vcur T TV (0, 0) vs w (by omega) f3 (by omega) hlim u1 hvh hcz e1 e2 h1c e3).mono ?_
            rintro e w' ⟨rfl, ROW, hROW, U⟩
            have hge := grownCap_ge w (xs.length + 1) cap te
            have hi1 := Nat.mul_le_mul_right z hin
            have hRs : ROW.size = grownCap w (xs.length + 1) cap te * z := by
              rw [hROW, Array.size_append, Array.size_append, size_zeroCells, size_zeroCells, hzv, List.size_toArray, List.length_take, show cur.toList.length = cur.size from rfl, Nat.min_eq_left (by omega), ← Nat.add_mul, ← Nat.add_mul]
              congr 1; omega
            have hRn : xs.length * z + z ≤ ROW.size := by
              rw [hRs, show xs.length * z + z = (xs.length + 1) * z by rw [Nat.add_mul, Nat.one_mul]]
              exact Nat.mul_le_mul_right _ hge
            have hRc : ∀ j, j < i * z → ROW[j]? = cur[j]? := fun j hj => by
              have hl : (cur.toList.take (i * z)).length = i * z := by rw [List.length_take, show cur.toList.length = cur.size from rfl]; omega
              rw [hROW, Array.append_assoc, Array.getElem?_append_left (by rw [List.size_toArray]; omega), List.getElem?_toArray, List.getElem?_take_of_lt hj, Array.getElem?_toList]
            refine ⟨_, rfl, S2.insNew (.inr rfl) hG' (below_upd U) U.new hcl (by rw [U.len]; exact hRs) hlen hge (grownCap_le_maxLen w _ _ _ (by unfold maxLen; unfold lim at hlim; omega)) hbt fun j u hj => ?_⟩
            rw [ins_grow hin (by omega) hRn hRc e1 (hjl hj)]
            exact hval j u hj
    · cases he
  · cases he

theorem insPage : InsM 275 160 2 (.agg #[.int .i64 0, .string { data := #[] }]) where
  shift b n c i vb vc cur vcur T TV vs w h1 h2 h3 h4 h5 h6 h7 h8 h9 h10 h11 := Tryz.insShift275 b n c i vb vc cur vcur T TV vs w h1 h2 h3 h4 h5 h6 h7 h8 h9 h10 h11
  room b n c vb vc cur vcur T TV vs w h1 h2 h3 h4 h5 h6 h7 h8 := Tryz.insRoom275 b n c vb vc cur vcur T TV vs w h1 h2 h3 h4 h5 h6 h7 h8
  end_ base n c vb vc vcur TV olds vs w h1 h2 h3 h4 h5 h6 h7 h8 h9 h10 := Tryz.insEnd275 base n c vb vc vcur TV olds vs w h1 h2 (by unfold lim at h3; omega) h4 h5 h6 h7 h8 h9 h10
  grow b n c i vb vc cur vcur T TV fr vs w h1 h2 h3 h4 h5 h6 h7 h8 h9 h10 h11 := Tryz.insGrow275 b n c i vb vc cur vcur T TV fr vs w h1 h2 h3 (by unfold lim at h4; omega) h5 h6 h7 h8 h9 h10 h11
theorem insLink : InsM 224 186 3 (.agg #[.string { data := #[] }, .int .i64 0, .string { data := #[] }]) where
  shift b n c i vb vc cur vcur T TV vs w h1 h2 h3 h4 h5 h6 h7 h8 h9 h10 h11 := Tryz.insShift224 b n c i vb vc cur vcur T TV vs w h1 h2 h3 h4 h5 h6 h7 h8 h9 h10 h11
  room b n c vb vc cur vcur T TV vs w h1 h2 h3 h4 h5 h6 h7 h8 := Tryz.insRoom224 b n c vb vc cur vcur T TV vs w h1 h2 h3 h4 h5 h6 h7 h8
  end_ base n c vb vc vcur TV olds vs w h1 h2 h3 h4 h5 h6 h7 h8 h9 h10 := Tryz.insEnd224 base n c vb vc vcur TV olds vs w h1 h2 (by unfold lim at h3; omega) h4 h5 h6 h7 h8 h9 h10
  grow b n c i vb vc cur vcur T TV fr vs w h1 h2 h3 h4 h5 h6 h7 h8 h9 h10 h11 := Tryz.insGrow224 b n c i vb vc cur vcur T TV fr vs w h1 h2 h3 (by unfold lim at h4; omega) h5 h6 h7 h8 h9 h10 h11
theorem good_InsertPage {W : World} (s : St) (o : Out) (he : nInsert 2 s = some o) : Good Tryz.prog phi ⟨W.heap.size, Tryz.prog⟩ (oldJ W) false 275 s o := good_insert (zv := .agg #[.int .i64 0, .string { data := #[] }]) (by decide) (by decide) rfl Tryz.call275 insPage s o he
theorem good_InsertLink {W : World} (s : St) (o : Out) (he : nInsert 3 s = some o) : Good Tryz.prog phi ⟨W.heap.size, Tryz.prog⟩ (oldJ W) false 224 s o := good_insert (zv := .agg #[.string { data := #[] }, .int .i64 0, .string { data := #[] }]) (by decide) (by decide) rfl Tryz.call224 insLink s o he
end Go.VS
