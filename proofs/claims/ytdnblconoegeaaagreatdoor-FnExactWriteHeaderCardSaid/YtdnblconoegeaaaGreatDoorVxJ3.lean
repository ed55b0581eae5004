/-
  strings.Builder: what the machine does at copyCheck and String, as the evaluator tells it.
-/
import Derived.Test.YtdnblconoegeaaaGreatDoorVxJ2
import Derived.Test.YtdnblconoegeaaaGreatDoorVxB
set_option linter.all false
namespace Go.VS
open Go Go.Proofs Go.RowKit
set_option linter.unusedSimpArgs false

theorem tiok_of {P : Program} {ts : Array TypeInfo} (h : P.types = ts) : TIok P fun t => ts[t]? := ⟨fun t i e => by rw [h]; exact e⟩
theorem tiok : TIok Tryz.prog tbS := tiok_of (by unfold Tryz.prog Tryz.progTables; rfl)
def onlyAt (ts : Array TypeInfo) (f : TypeDesc → Bool) (k : TypeId) : Bool := (List.range ts.size).all fun T => match ts[T]? with | some i => !f i.desc || T == k | none => true
theorem onlyAt_ok {ts : Array TypeInfo} {f : TypeDesc → Bool} {k : TypeId} (h : onlyAt ts f k = true) {T : TypeId} {i : TypeInfo} (hi : ts[T]? = some i) (hf : f i.desc = true) : T = k := by
  have := List.all_eq_true.1 h T (List.mem_range.2 (Array.getElem?_eq_some_iff.1 hi).1)
  rw [hi] at this
  simpa [hf] using this
theorem types_eq : Tryz.prog.types = Tryz.types := by unfold Tryz.prog Tryz.progTables; rfl
theorem only_of {P : Program} {ts : Array TypeInfo} (e : P.types = ts) {f : TypeDesc → Bool} {k : TypeId} (h : onlyAt ts f k = true) {T : TypeId} {i : TypeInfo} (hi : P.types[T]? = some i) (hf : f i.desc = true) : T = k := by
  subst e; exact onlyAt_ok h hi hf
theorem ub_205 {T : TypeId} (h : Ub Tryz.prog T) : T = 254 := by
  obtain ⟨i, h1, h2⟩ := h
  exact only_of types_eq (f := isBld) (by decide +kernel) h1 h2
theorem u8_5 {T : TypeId} (h : U8 Tryz.prog T) : T = 5 := by
  obtain ⟨i, h1, h2⟩ := h
  exact only_of types_eq (f := isU8) (by decide +kernel) h1 h2

section
variable {φ : Nat → FuncId} {N : Env} {c : Cx} {a : Act} {w w' : World} {h : Gh}
/-- The first cell of the first block is its own address. -/
theorem Sim.self {x y : V} {r : List Rw} {b : Nat} {T : TypeId} {fr : Nat × Nat} {cc : Array Value} (S : Sim φ N c ⟨[.ptr 0 0], [[x, y]], r⟩ a w h) (hB : h.B 0 = some (b, 0, 2)) (hh : w.heap[b]? = some (.cells cc T fr)) (hs : 2 ≤ cc.size) :
    Sim φ N c ⟨[.ptr 0 0], [[.ptr 0 0, y]], r⟩ a (w.setCell ⟨b, 0, none⟩ (.pointer (some ⟨b, 0, none⟩))) h := by
  obtain ⟨b', base', hB', cc', T', fr', k1, k2, k3, k4, k5⟩ := S.m 0 _ rfl
  rw [hB] at hB'
  have e1 : b = b' ∧ 0 = base' := by simpa using hB'
  obtain ⟨rfl, rfl⟩ := e1
  rw [hh] at k1; cases k1
  have U := Upd.setCell (o := 0) hh (.pointer (some ⟨b, 0, none⟩))
  refine S.setBlk (id := 0) (cs := [x, y]) (cs' := [.ptr 0 0, y]) rfl hB rfl U (fun j hj => ?_) fun hle => ?_
  · rw [Array.getElem?_setIfInBounds_ne (by simp at hj; omega)]
  · refine ⟨_, T, fr, U.new, by rw [U.len]; simpa using k2, fun j v hj => ?_, k4, fun j hj => ?_⟩
    · cases j with
      | zero =>
        cases hj
        rw [arr_getD, Array.getElem?_setIfInBounds_self_of_lt (by omega)]
        exact ⟨.ptr 0 0 b 0 2 hB, rfl⟩
      | succ j =>
        have hj' : [x, y][j + 1]? = some v := hj
        have := (k3 (j + 1) v hj').mono hle
        rw [arr_getD, Array.getElem?_setIfInBounds_ne (by omega), ← arr_getD]
        exact this
    · cases j with
      | zero => cases hj
      | succ j =>
        rw [U.len]
        exact k5 (j + 1) hj
end

theorem good_copyCheck {W : World} (s : St) (o : Out) (he : nCopyCheck s = some o) : Good Tryz.prog phi ⟨W.heap.size, Tryz.prog⟩ (oldJ W) false 271 s o := by
  have key : ∀ (a y : V) (r : List Rw), isSelf a = true → (y = .nil ∨ ∃ n tg, y = .sl 0 0 n tg) → Good Tryz.prog phi ⟨W.heap.size, Tryz.prog⟩ (oldJ W) false 271 ⟨[.ptr 0 0], [[a, y]], r⟩ (.tup [], [[.ptr 0 0, y]], r) := by
    intro a y r ha hy
    refine ⟨Nat.le_refl _, rfl, ?_, fun cx act w h hJ _ S => ?_⟩
    · rcases hy with rfl | ⟨n, tg, rfl⟩ <;> simp [okRet]
    obtain ⟨p, rfl, vp⟩ := act1 S
    obtain ⟨b, base, len, hB, rfl⟩ := vp.ptr_inv
    obtain ⟨b', base', hB', cc, T, fr, k1, k2, k3, k4, k5⟩ := S.m 0 _ rfl
    rw [hB] at hB'
    have e1 : b = b' ∧ base = base' ∧ len = 2 := by simpa using hB'
    obtain ⟨rfl, rfl, rfl⟩ := e1
    have c0 := (k3 0 _ rfl).1
    simp only [Nat.add_zero] at c0 k2 ⊢
    simp only [List.length_cons, List.length_nil] at k2 k4
    have hfr := k4 (by omega)
    subst hfr
    have hcell : w.cell? ⟨b, base, none⟩ = some (cc.getD base undef) := cell_getD k1 (by omega)
    have tup : ∀ {w' h'}, VOk phi w' h' (.tup []) (.tuple #[]) := .tup [] #[] rfl fun j v hj => by simp at hj
    unfold isSelf at ha
    split at ha
    · -- new
      obtain ⟨q1, q2, q3⟩ := k5 0 rfl
      have q1 := ub_205 q1
      subst q1
      have hb0 : base = 0 := by omega
      subst hb0
      have e0 : cc.getD 0 undef = .pointer none := by
        have inv : ∀ {q : Value}, KOk phi w h .bz q → q = .pointer none := by
          intro q hk
          cases hk with
          | l hl => cases hl with | pl hp => cases hp; rfl
        exact inv c0
      rw [e0] at hcell
      refine .inl ⟨Tryz.call271 _ _, (Tryz.copyCheck_fresh b w hcell (by simp [World.shape?, k1, q2]) (by simp [World.frozen?, k1])).mono ?_⟩
      rintro e w' ⟨rfl, rfl⟩
      exact ⟨_, rfl, h, (S.self hB k1 (by omega)).slot1 tup⟩
    · -- used
      have e0 : cc.getD base undef = .pointer (some ⟨b, base, none⟩) := by
        obtain ⟨b2, base2, len2, hB2, e⟩ := (VOk.k c0).ptr_inv
        rw [hB] at hB2
        have e1 : b = b2 ∧ base = base2 := by simp at hB2; exact ⟨hB2.1, hB2.2.1⟩
        obtain ⟨rfl, rfl⟩ := e1
        rw [e]; rfl
      rw [e0] at hcell
      refine .inl ⟨Tryz.call271 _ _, (Tryz.copyCheck_used b base w hcell).mono ?_⟩
      rintro e w' ⟨rfl, rfl⟩
      exact ⟨_, rfl, h, S.slot1 tup⟩
    · cases ha
  unfold nCopyCheck at he
  split at he
  · split at he
    · rename_i ha; cases he; exact key _ _ _ ha (.inl rfl)
    · cases he
  · split at he
    · rename_i ha; cases he; exact key _ _ _ ha (.inr ⟨_, _, rfl⟩)
    · cases he
  · cases he

section
variable {φ : Nat → FuncId} {N : Env} {c : Cx} {s : St} {a : Act} {w w' : World} {h : Gh}
theorem freeze_heap (w : World) (b n : Nat) (k : Nat) : (w.freeze ⟨b, 0, none⟩ n).heap[k]? = w.heap[k]? ∨ (k = b ∧ ∃ cc T fr fr', w.heap[k]? = some (.cells cc T fr) ∧ (w.freeze ⟨b, 0, none⟩ n).heap[k]? = some (.cells cc T fr')) := by
  unfold World.freeze
  split
  · exact .inl rfl
  · simp only [Array.getElem?_modify]
    by_cases hk : b = k
    · subst hk
      rw [if_pos rfl]
      cases hh : w.heap[b]? with
      | none => exact .inl rfl
      | some o =>
        cases o with
        | cells cc T fr => exact .inr ⟨rfl, cc, T, fr, _, rfl, rfl⟩
        | _ => exact .inl rfl
    · rw [if_neg hk]; exact .inl rfl
theorem freeze_misc (w : World) (b n : Nat) : (w.freeze ⟨b, 0, none⟩ n).os = w.os ∧ (w.freeze ⟨b, 0, none⟩ n).tape = w.tape ∧ (w.freeze ⟨b, 0, none⟩ n).output = w.output ∧ (w.freeze ⟨b, 0, none⟩ n).heap.size = w.heap.size := by
  unfold World.freeze
  split <;> simp
/-- What nobody writes is shut off. -/
theorem Sim.shut (S : Sim φ N c s a w h) {b n : Nat} (hR : ∀ o, h.Rl b o) (hO : (∀ o, c.O b o) ∨ c.w0.heap.size ≤ b) : Sim φ N c s a (w.freeze ⟨b, 0, none⟩ n) h := by
  obtain ⟨f1, f2, f3, f4⟩ := freeze_misc w b n
  have hh := freeze_heap w b n
  have F : Fr (fun k _ => k = b) w (w.freeze ⟨b, 0, none⟩ n) := ⟨f1, f2, f3, by rw [f4]; exact Nat.le_refl _, fun k hk => by
    rcases hh k with e | ⟨rfl, cc, T, fr, fr', e1, e2⟩
    · exact .inl e
    · exact .inr ⟨cc, T, fr, cc, fr', e1, e2, rfl, fun _ _ => rfl, .inr fun _ => rfl⟩⟩
  have hc : ∀ k o, (w.freeze ⟨b, 0, none⟩ n).cell? ⟨k, o, none⟩ = w.cell? ⟨k, o, none⟩ := fun k o => by
    rcases hh k with e | ⟨rfl, cc, T, fr, fr', e1, e2⟩
    · simp only [World.cell?, e]
    · simp only [World.cell?, e1, e2]
  have hle : h.Le h w (w.freeze ⟨b, 0, none⟩ n) := ⟨fun _ _ x => x, fun _ _ x => x, fun b o _ => hc b o, fun b o _ => hc b o, fun _ _ x => x, fun _ _ x => x⟩
  refine { S with t := fun j v hj => (S.t j v hj).mono hle, m := ?_, r := ?_, fr := S.fr.trans F (fun x o hx e => ?_), rb := fun b o x => by rw [f4]; exact S.rb b o x }
  · intro id cs hcs
    obtain ⟨b1, base, hb, cc, T, fr, k1, k2, k3, k4, k5⟩ := S.m id cs hcs
    refine ⟨b1, base, hb, cc, T, ?_⟩
    rcases hh b1 with e | ⟨rfl, cc', T', fr0, fr', e1, e2⟩
    · exact ⟨fr, by rw [e]; exact k1, k2, fun j v hj => (k3 j v hj).mono hle, k4, k5⟩
    · rw [k1] at e1; cases e1
      refine ⟨fr', e2, k2, fun j v hj => (k3 j v hj).mono hle, fun h0 => ?_, k5⟩
      exact absurd (.inl ⟨id, base, base + cs.length, ⟨cs, hcs, hb, rfl⟩, Nat.le_refl _, by omega⟩) (S.sR b1 base (hR base))
  · intro id z fz xs hx
    obtain ⟨g, hg, h1, h2, h3, h4⟩ := S.r id z fz xs hx
    refine ⟨g, hg, h1, h2, h3, ?_⟩
    cases hl : g.loc with
    | none => rw [hl] at h4; exact h4
    | some bc =>
      obtain ⟨b1, cap⟩ := bc
      rw [hl] at h4
      obtain ⟨cc, T, fr, e1, e2, e3, e4, e5, e6, e7⟩ := h4
      have e7' : ∀ j v, (flat xs)[j]? = some v → POk (w.freeze ⟨b, 0, none⟩ n) h.Rp v (cc.getD j undef) ∧ (cc.getD j undef).oneCell' = true := fun j v hv => ⟨(e7 j v hv).1.mono hle.kp hle.p, (e7 j v hv).2⟩
      rcases hh b1 with e | ⟨rfl, cc', T', fr0, fr', q1, q2⟩
      · exact ⟨cc, T, fr, by rw [e]; exact e1, e2, e3, e4, e5, e6, e7'⟩
      · rw [e1] at q1; cases q1
        refine ⟨cc, T, fr', q2, e2, e3, ⟨e4.1, e4.2.1, fun _ hf => ?_⟩, fun hf => ?_, e6, e7'⟩
        · subst hf
          exact absurd (.inr ⟨id, z, xs, g, cap, hx, hg, hl⟩) (S.sR b1 0 (hR 0))
        · subst hf
          exact absurd (.inr ⟨id, z, xs, g, cap, hx, hg, hl⟩) (S.sR b1 0 (hR 0))
  · subst e
    rcases hO with h1 | h1
    · exact h1 o
    · omega
end

theorem tbytes_inv : ∀ {xs : List V} {l : List UInt8}, tbytes xs = some l → xs = bytesT l
  | [], l, e => by cases e; rfl
  | v :: xs, l, e => by
    cases v <;> simp only [tbytes] at e <;> (try (cases e; done))
    split at e
    · rename_i hn
      obtain ⟨l', h1, rfl⟩ := Option.map_eq_some_iff.1 e
      rw [tbytes_inv h1]
      show _ = V.bt _ :: bytesT l'
      rw [← hn]
    · cases e
theorem flat_bytesT : ∀ l : List UInt8, flat (bytesT l) = bytesT l
  | [] => rfl
  | x :: l => by rw [bytesT, List.map_cons, flat_cons, ← bytesT, flat_bytesT l]; rfl

theorem isSelf_ok {a : V} (h : isSelf a = true) : okRet 1 a = true := by
  unfold isSelf at h
  split at h <;> first | rfl | cases h
theorem good_String {W : World} (s : St) (o : Out) (he : nBuilderString s = some o) : Good Tryz.prog phi ⟨W.heap.size, Tryz.prog⟩ (oldJ W) false 206 s o := by
  unfold nBuilderString at he
  split at he
  · rename_i a
    split at he
    · rename_i ha
      cases he
      refine ⟨Nat.le_refl _, rfl, ?_, fun cx act w h hJ _ S => ?_⟩
      · show (([a, _] : List V).all (okRet 1) && true) = true
        simp only [List.all_cons, isSelf_ok ha, Bool.true_and, List.all_nil, Bool.and_true]
        rfl
      obtain ⟨p, rfl, vp⟩ := act1 S
      obtain ⟨b, base, len, hB, rfl⟩ := vp.ptr_inv
      obtain ⟨b', base', hB', cc, T, fr, k1, k2, k3, k4, k5⟩ := S.m 0 _ rfl
      rw [hB] at hB'
      have e1 : b = b' ∧ base = base' ∧ len = 2 := by simpa using hB'
      obtain ⟨rfl, rfl, rfl⟩ := e1
      have c1 := (VOk.k (k3 1 _ rfl).1).nil_inv
      have hcell : w.cell? ⟨b, base + 1, none⟩ = some (.slice none 0 0) := by rw [← c1]; exact cell_getD k1 (by simp at k2; omega)
      refine .inl ⟨Tryz.call206 _ _, (Tryz.String_none b base 0 none w (fun a e => by cases e) (heap_lt k1) hcell).mono ?_⟩
      rintro e w' ⟨rfl, B⟩
      exact ⟨_, rfl, h, (S.below B).slot1 (.k (.l (.pl (.s ⟨#[]⟩))))⟩
    · cases he
  · rename_i a n tg xs
    split at he
    · rename_i hc
      obtain ⟨ha, rfl⟩ := hc
      obtain ⟨l, hl, he⟩ := Option.map_eq_some_iff.1 he
      cases he
      have hx := tbytes_inv hl
      subst hx
      refine ⟨Nat.le_refl _, rfl, ?_, fun cx act w h hJ _ S => ?_⟩
      · show (([a, _] : List V).all (okRet 1) && true) = true
        simp only [List.all_cons, isSelf_ok ha, Bool.true_and, List.all_nil, Bool.and_true]
        rfl
      obtain ⟨p, rfl, vp⟩ := act1 S
      obtain ⟨b, base, len, hB, rfl⟩ := vp.ptr_inv
      obtain ⟨b', base', hB', cc, T, fr, k1, k2, k3, k4, k5⟩ := S.m 0 _ rfl
      rw [hB] at hB'
      have e1 : b = b' ∧ base = base' ∧ len = 2 := by simpa using hB'
      obtain ⟨rfl, rfl, rfl⟩ := e1
      obtain ⟨A, cap, g, c1, hG, c2, c3, c4, c5, c6⟩ := (VOk.k (k3 1 _ rfl).1).sl_inv2
      have hcell : w.cell? ⟨b, base + 1, none⟩ = some (.slice A (bytesT l).length cap) := by rw [← c1]; exact cell_getD k1 (by simp at k2; omega)
      obtain ⟨g', hG', r1, r2, r3, r4⟩ := S.r 0 1 false _ rfl
      rw [hG] at hG'; cases hG'
      obtain ⟨h1, S1, hle, hB1, hG1⟩ := S.freeze (id := 0) (z := 1) (fz := false) (xs := bytesT l) rfl
      have S1' : Sim phi ⟨W.heap.size, Tryz.prog⟩ cx ⟨[.ptr 0 0], [[a, .sl 0 0 (bytesT l).length tg]], [.row 1 true (bytesT l)]⟩ ⟨#[.pointer (some ⟨b, base + 0, none⟩)], []⟩ w h1 := S1
      by_cases h0 : l = []
      · subst h0
        refine .inl ⟨Tryz.call206 _ _, (Tryz.String_none b base cap A w (fun a e => ?_) (heap_lt k1) hcell).mono ?_⟩
        · cases hloc : g.loc with
          | none => rw [hloc] at c6; rw [show A = none from c6] at e; cases e
          | some bc =>
            obtain ⟨b1, room⟩ := bc
            rw [hloc] at c6 r4
            obtain ⟨off, rfl⟩ := c6
            obtain ⟨cc', T', fr', q1, _⟩ := r4
            cases e
            exact ⟨(T', cc'.size), by simp only [World.shape?, q1]⟩
        · rintro e w' ⟨rfl, B⟩
          exact ⟨_, rfl, h1, (S1'.below B).slot1 (.k (.l (.pl (.s ⟨#[]⟩))))⟩
      · have hpos : 0 < l.length := Nat.pos_of_ne_zero fun e => h0 (List.eq_nil_of_length_eq_zero e)
        have hbl : (bytesT l).length = l.length := by simp [bytesT]
        cases hloc : g.loc with
        | none => rw [hloc] at r4; rw [show bytesT l = [] from r4] at hbl; simp at hbl; omega
        | some bc =>
          obtain ⟨b1, room⟩ := bc
          rw [hloc] at c5 r4
          obtain ⟨cc', T', fr', q1, q2, q3, q4, q5, q6, q7⟩ := r4
          have hA := c5.2 (by omega)
          rw [Nat.zero_mul] at hA
          subst hA
          have hT : T' = 5 := by
            refine u8_5 (q4.2.1 (l[0].toNat) ?_)
            rw [bytesT, List.mem_map]
            exact ⟨l[0], List.getElem_mem _, rfl⟩
          subst hT
          rw [hbl] at hcell q3 c3
          have hcell2 : ∀ j x, l[j]? = some x → w.cell? ⟨b1, j, none⟩ = some (.int .u8 x.toNat) := by
            intro j x hj
            have hjl := (List.getElem?_eq_some_iff.1 hj).1
            have hf : (flat (bytesT l))[j]? = some (.bt x.toNat) := by rw [flat_bytesT, bytesT, List.getElem?_map, hj]; rfl
            have inv : ∀ {R : Nat → Nat → Prop} {n : Int} {q : Value}, POk w R (.bt n) q → q = .int .u8 n := by
              intro R n q hp; cases hp; rfl
            rw [← inv (q7 j _ hf).1]
            exact cell_getD q1 (by rw [q2]; omega)
          refine .inl ⟨Tryz.call206 _ _, (Tryz.String_some b base b1 cap cc'.size l w hcell h0 c3 (by rw [q2]; omega) (by rw [q2, Nat.mul_one]; exact q4.1) (by simp only [World.shape?, q1]) hcell2).mono ?_⟩
          rintro e w' ⟨rfl, rfl⟩
          have hR : ∀ o, h1.Rl b1 o := by
            obtain ⟨g2, hg2, _, _, _, r4'⟩ := S1'.r 0 1 true _ rfl
            rw [hG1, hG] at hg2; cases hg2
            rw [hloc] at r4'
            obtain ⟨_, _, _, _, _, _, _, _, u6, _⟩ := r4'
            exact fun o => S1'.pl _ _ (u6 rfl o)
          have hO : (∀ o, cx.O b1 o) ∨ cx.w0.heap.size ≤ b1 := by
            by_cases hlt : cx.w0.heap.size ≤ b1
            · exact .inr hlt
            · exact .inl fun o => (S.ow b1 o (.inr ⟨0, 1, _, g, room, rfl, hG, hloc⟩)).resolve_right hlt
          have S2 := (S1'.heap (w' := w.drew) rfl rfl rfl rfl).shut (n := l.length) hR hO
          refine ⟨_, rfl, h1, S2.slot1 ?_⟩
          exact .k (.l (.pl (.s ⟨l.toArray⟩)))
    · cases he
  · cases he
end Go.VS
