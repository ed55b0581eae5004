/-
  What the functions of the program answer (fourth part): paths; the law of FindPath answers true.
-/
import Derived.Test.YtekbnablgfhhpaaGreatDoorB6
import Derived.Test.YtekbnablgfhhpaaGreatDoorB5
set_option linter.all false
section
namespace Go.VS
set_option linter.unusedSimpArgs false

def isNm (s : Bs) (x : Lk) : Bool := decide (x.name = s)
def linkAt (l : List Lk) (s : Bs) : Int := idxF (isNm s) l 0
theorem gl1_call (s : Bs) (x : Lk) (K : Out → Prop) : Call prog 121 ⟨[lkV x, .vp [.s s]], [], []⟩ K = K (.b (isNm s x), [], []) := by
  refine Call_det ?_ K
  rw [Call_sp (p := prog) (f := 121) rfl _ _ _ rfl (by decide)]
  by_cases h : x.name = s <;> simp -implicitDefEqProofs [lkV, isNm, h]
theorem ixLk (pr : Lk → Bool) (g : Nat) (caps : List V) (q : Bool) (xs : List Lk) (hl : xs.length ≤ lim) (hcap : capsOk caps = true)
    (hc : ∀ x, x ∈ xs → ∀ K : Out → Prop, Call prog g ⟨lkV x :: caps, [], []⟩ K = K (.b (pr x), [], [])) (K : Out → Prop) :
    Call prog 122 ⟨[.view q 3 (xs.map lkV), .fn g caps], [], []⟩ K = K (.i .i64 (idxF pr xs 0), [], []) :=
  ixF_call (p := prog) (f := 122) (z := 3) (ag := true) rfl lkV pr g caps q xs hl hcap (fun x => by simp [lkV]) (fun s x => by simp [lkV]) hc K
theorem groupLink_call (q : Bool) (l : List Lk) (s : Bs) (hl : l.length ≤ lim) (K : Out → Prop) (k kd rf : Int) (q1 q2 : Bool) (ms : List Ms) (hp : List Bs) :
    Call prog 89 ⟨[.agg [.i .i64 k, .i .i64 kd, .i .i64 rf, .view q1 3 (ms.map msV), .view q2 1 (hp.map .s), .view q 3 (l.map lkV)], .s s], [], []⟩ K = K (.i .i64 (linkAt l s), [], []) := by
  refine Call_det ?_ K
  rw [Call_sp (p := prog) (f := 89) rfl _ _ _ rfl (by decide)]
  have e := fun K => ixLk (isNm s) 121 [.vp [.s s]] q l hl rfl (fun x _ => gl1_call s x) K
  unfold linkAt
  simp -implicitDefEqProofs [e]
theorem l17Link_call (q : Bool) (l : List Lk) (s : Bs) (hl : l.length ≤ lim) (K : Out → Prop) : Call prog 45 ⟨[.view q 3 (l.map lkV), .s s], [], []⟩ K = K (.i .i64 (linkAt l s), [], []) := by
  refine Call_det ?_ K
  rw [Call_sp (p := prog) (f := 45) rfl _ _ _ rfl (by decide)]
  unfold lim at hl
  simp -implicitDefEqProofs
  refine WL_for (fun i => ⟨sp 20 [(0, .view q 3 (l.map lkV)), (1, .s s), (5, .i .i64 i)], [], []⟩) l.length (fun i => linkAt l s = idxF (isNm s) (l.drop i) i) _ (by simp -implicitDefEqProofs) (by simp [linkAt]) ?_
  intro i hi hP
  by_cases hlt : i < l.length
  · have hw := wrap_i64 (n := (i : Int) + 1) (by omega) (by omega)
    rw [hP, List.drop_eq_getElem_cons hlt, idxF]
    by_cases d : l[i].name = s
    · simp -implicitDefEqProofs [hlt, hw, lkV, isNm, d]
    · simp -implicitDefEqProofs [hlt, hw, lkV, isNm, d, Next]
  · rw [hP, List.drop_eq_nil_of_le (by omega), idxF]
    simp -implicitDefEqProofs [hlt]
end Go.VS
end
section
namespace Go.VS
set_option linter.unusedSimpArgs false

theorem splitB_sum (c : UInt8) : ∀ s : Bs, ((splitB c s).map fun x => x.length + 1).sum = s.length + 1
  | [] => by simp [splitB]
  | x :: s => by
    have ih := splitB_sum c s
    have hn := splitB_ne c s
    rw [splitB]; split
    · simp [ih]; omega
    · cases h : splitB c s with
      | nil => exact absurd h hn
      | cons a as => rw [h] at ih; simp at ih ⊢; omega
theorem sum_le12 : ∀ l : List Bs, l.all isName = true → (l.map fun x => x.length + 1).sum ≤ l.length * 13
  | [], _ => by simp
  | x :: l, h => by
    simp only [List.all_cons, Bool.and_eq_true] at h
    have ih := sum_le12 l h.2
    have h1 := h.1
    unfold isName at h1
    simp only [Bool.and_eq_true, decide_eq_true_eq] at h1
    simp; omega
theorem pathOf_facts {s : Bs} {l : List Bs} (e : pathOf s = some l) : l.length ≤ 6 ∧ s.length ≤ lim := by
  unfold pathOf at e
  split at e
  · rename_i h; cases e; subst h; simp [lim]
  · split at e
    · cases e
    · rename_i c t _
      split at e
      · split at e
        · rename_i h1
          split at e
          · rename_i h2
            cases e
            refine ⟨h2, ?_⟩
            have a := splitB_sum 47 t
            have b := sum_le12 _ h1
            unfold lim
            simp; omega
          · cases e
        · cases e
      · cases e
theorem idxF_cases {α : Type} (pr : α → Bool) : ∀ (l : List α) (i : Nat), idxF pr l i = -1 ∨ ∃ j, j < l.length ∧ idxF pr l i = ((i + j : Nat) : Int)
  | [], i => .inl rfl
  | x :: l, i => by
    unfold idxF
    cases pr x with
    | true => exact .inr ⟨0, by simp, rfl⟩
    | false =>
      rcases idxF_cases pr l (i + 1) with h | ⟨j, h1, h2⟩
      · exact .inl h
      · exact .inr ⟨j + 1, by simpa using h1, by rw [show i + (j + 1) = i + 1 + j by omega]; exact h2⟩
theorem linkAt_cases (l : List Lk) (s : Bs) : linkAt l s = -1 ∨ ∃ j : Nat, ∃ hj : j < l.length, linkAt l s = j ∧ l.getD (linkAt l s).toNat default = l[j] := by
  rcases idxF_cases (isNm s) l 0 with h | ⟨j, h1, h2⟩
  · exact .inl h
  · rw [Nat.zero_add] at h2
    refine .inr ⟨j, h1, h2, ?_⟩
    show l.getD (idxF (isNm s) l 0).toNat default = l[j]
    rw [h2, Int.toNat_natCast, List.getD_eq_getElem?_getD, List.getElem?_eq_getElem h1]; rfl

/-- Names followed from a block. -/
def fndF (p : Pr) : Nat → Int → Nat → List Bs → Int × Int
  | 0, _, _, _ => (0, 0)
  | n + 1, k, f, ns => match ns with
    | [] => (k, 0)
    | x :: l => match p.grp k with
      | .error c => (0, c)
      | .ok g => if linkAt g.links x < 0 then (0, 3) else if (g.links.getD (linkAt g.links x).toNat default).target = [] then fndF p n (g.links.getD (linkAt g.links x).toNat default).block f l
        else if f = 8 then (0, 11) else fndF p n p.root (f + 1) ((pathOf (g.links.getD (linkAt g.links x).toNat default).target).getD [] ++ l)
def fnd (p : Pr) (l : List Bs) : Int × Int := if p.root = 0 then (0, 6) else fndF p 1000 p.root 0 l
theorem fndF_nil {p : Pr} {n : Nat} {k : Int} {f : Nat} : fndF p (n + 1) k f [] = (k, 0) := rfl
section
variable {p : Pr} {n : Nat} {k : Int} {f : Nat} {x : Bs} {l : List Bs} {g : Gr}
theorem fndF_err {c : Int} (c0 : p.grp k = .error c) : fndF p (n + 1) k f (x :: l) = (0, c) := by simp only [fndF, c0]
theorem fndF_no (c0 : p.grp k = .ok g) (c1 : linkAt g.links x = -1) : fndF p (n + 1) k f (x :: l) = (0, 3) := by simp only [fndF, c0, c1]; exact if_pos (by decide)
theorem fndF_hard (c0 : p.grp k = .ok g) {j : Nat} (hj : j < g.links.length) (c1 : linkAt g.links x = j) (c2 : g.links[j].target = []) : fndF p (n + 1) k f (x :: l) = fndF p n g.links[j].block f l := by
  have e : g.links.getD (linkAt g.links x).toNat default = g.links[j] := by rw [c1, Int.toNat_natCast, List.getD_eq_getElem?_getD, List.getElem?_eq_getElem hj]; rfl
  simp only [fndF, c0, e, c2]
  rw [if_neg (by omega), if_pos trivial]
theorem fndF_loop (c0 : p.grp k = .ok g) {j : Nat} (hj : j < g.links.length) (c1 : linkAt g.links x = j) (c2 : g.links[j].target ≠ []) : fndF p (n + 1) k 8 (x :: l) = (0, 11) := by
  have e : g.links.getD (linkAt g.links x).toNat default = g.links[j] := by rw [c1, Int.toNat_natCast, List.getD_eq_getElem?_getD, List.getElem?_eq_getElem hj]; rfl
  simp only [fndF, c0, e, c2]
  rw [if_neg (by omega), if_neg (by simp), if_pos trivial]
theorem fndF_soft (c0 : p.grp k = .ok g) {j : Nat} (hj : j < g.links.length) (c1 : linkAt g.links x = j) (c2 : g.links[j].target ≠ []) (hf : f ≠ 8) : fndF p (n + 1) k f (x :: l) = fndF p n p.root (f + 1) ((pathOf g.links[j].target).getD [] ++ l) := by
  have e : g.links.getD (linkAt g.links x).toNat default = g.links[j] := by rw [c1, Int.toNat_natCast, List.getD_eq_getElem?_getD, List.getElem?_eq_getElem hj]; rfl
  simp only [fndF, c0, e, c2]
  rw [if_neg (by omega), if_neg (by simp), if_neg hf]
end
theorem link_path {p : Pr} {k : Int} {g : Gr} (c0 : p.grp k = .ok g) {j : Nat} (hj : j < g.links.length) (c2 : g.links[j].target ≠ []) : ∃ m, pathOf g.links[j].target = some m ∧ m.length ≤ 6 ∧ g.links[j].target.length ≤ lim := by
  have := (lksOk_facts (grp_facts c0)).2 _ (List.getElem_mem hj)
  unfold Lk.ok at this
  rw [if_neg c2] at this
  simp only [Bool.and_eq_true] at this
  obtain ⟨m, hm⟩ := Option.isSome_iff_exists.1 this.2.2
  exact ⟨m, hm, pathOf_facts hm⟩
end Go.VS
end
section
namespace Go.VS
set_option linter.unusedSimpArgs false

theorem Grow_zero (K : Out → Prop) : Call prog 182 ⟨[.nil, .i .i64 0], [], []⟩ K = K (.nil, [], []) := by
  rw [Call_intr (p := prog) (f := 182) rfl]
  have : nGrow ⟨[.nil, .i .i64 0], [], []⟩ = some (.nil, [], []) := rfl
  rw [this, DoO_some]
theorem Grow_call (n : Nat) (h0 : 0 < n) (h : n ≤ lim) (K : Out → Prop) : Call prog 182 ⟨[.nil, .i .i64 n], [], []⟩ K = K (.sl 0 0 0 false, [], [.row 1 false []]) := by
  rw [Call_intr (p := prog) (f := 182) rfl]
  have : nGrow ⟨[.nil, .i .i64 n], [], []⟩ = some (.sl 0 0 0 false, [], [.row 1 false []]) := by
    simp only [nGrow]
    rw [if_neg (by omega), if_pos ⟨by omega, by omega⟩]
  rw [this, DoO_some]
/-- The first parts, one behind the other. -/
def catN (vs : List (List Bs)) (i : Nat) : List Bs := (vs.take i).flatten
theorem catN_succ {vs : List (List Bs)} {i : Nat} (h : i < vs.length) : catN vs (i + 1) = catN vs i ++ vs[i] := by
  unfold catN
  rw [← List.take_append_getElem h, List.flatten_append]; simp only [List.flatten_cons, List.flatten_nil, List.append_nil]
theorem catN_zero (vs : List (List Bs)) : catN vs 0 = [] := rfl
theorem catN_le {vs : List (List Bs)} {i : Nat} : (catN vs i).length ≤ vs.flatten.length := by
  unfold catN
  conv => rhs; rw [← List.take_append_drop i vs]
  rw [List.flatten_append, List.length_append]; omega
/-- A part: nil or a view. -/
def prt (v : V) (xs : List Bs) : Prop := v = .view true 1 (xs.map .s) ∨ (v = .nil ∧ xs = [])
set_option maxHeartbeats 1000000 in
theorem Concat_any (q : Bool) (ps : List V) (vs : List (List Bs)) (hv : vs.length = ps.length) (hp : ∀ (i : Nat) (h1 : i < ps.length) (h2 : i < vs.length), prt ps[i] vs[i]) (hn : ps.length ≤ lim) (hs : vs.flatten.length ≤ lim) (K : Out → Prop) :
    Call prog 90 ⟨[.view q 1 ps], [], []⟩ K = K (.sl 0 0 (catN vs ps.length).length false, [], [.row 1 false ((catN vs ps.length).map .s)]) := by
  refine Call_det ?_ K
  rw [Call_sp (p := prog) (f := 90) rfl _ _ _ rfl (by decide)]
  unfold lim at hn hs
  simp -implicitDefEqProofs
  refine WL_for (fun i => ⟨sp 36 [(0, .view q 1 ps), (3, .i .i64 (catN vs i).length), (9, .view q 1 ps), (10, .i .i64 ps.length), (11, .i .i64 i)], [], []⟩) ps.length (fun _ => True) _ (by simp -implicitDefEqProofs [catN_zero]) trivial ?_
  intro i hi _
  by_cases hlt : i < ps.length
  · have hlt2 : i < vs.length := by omega
    have hw := wrap_i64 (n := (i : Int) + 1) (by omega) (by omega)
    have h1 := catN_succ hlt2
    have h2 := @catN_le vs (i + 1)
    have h2' := h2
    rw [h1, List.length_append] at h2'
    have hw2 := wrap_i64 (n := ((catN vs i).length : Int) + vs[i].length) (by omega) (by omega)
    have h3 : ¬ (((catN vs i).length : Int) + vs[i].length) < 0 := by omega
    rcases hp i hlt hlt2 with h4 | ⟨h4, h5⟩
    · simp -implicitDefEqProofs [hlt, h4, hw, hw2, h1, h3, Next]
    · rw [h5, List.append_nil] at h1
      have hw3 := wrap_i64 (n := ((catN vs i).length : Int)) (by omega) (by omega)
      have h6 : ¬ ((catN vs i).length : Int) < 0 := by omega
      simp -implicitDefEqProofs [hlt, h4, hw, hw3, h1, h6, Next]
  · obtain rfl : i = ps.length := by omega
    have h6 := @catN_le vs ps.length
    simp -implicitDefEqProofs
    by_cases h0 : (catN vs ps.length).length = 0
    · have e := fun K => Grow_zero K
      have e2 : (((catN vs ps.length).length : Nat) : Int) = 0 := by omega
      rw [e2]
      simp -implicitDefEqProofs [e]
      refine WL_for (fun i => ⟨sp 36 [(6, .sl 0 0 (catN vs i).length false), (25, .view q 1 ps), (26, .i .i64 ps.length), (27, .i .i64 i)], [], [.row 1 false ((catN vs i).map .s)]⟩) ps.length (fun _ => True) _ (by simp -implicitDefEqProofs [catN]) trivial ?_
      intro i hi _
      by_cases hlt : i < ps.length
      · have hlt2 : i < vs.length := by omega
        have hw := wrap_i64 (n := (i : Int) + 1) (by omega) (by omega)
        have h1 := catN_succ hlt2
        have h2 := @catN_le vs (i + 1)
        have h8 : (catN vs (i + 1)).length ≤ lim := by unfold lim; omega
        have h9 : (catN vs i).length ≤ lim := by have := congrArg List.length h1; simp at this; unfold lim; omega
        rcases hp i hlt hlt2 with h4 | ⟨h4, h5⟩
        · rw [h1, List.length_append] at h8
          simp -implicitDefEqProofs [hlt, h4, hw, h1, h8, Next]
        · rw [h5, List.append_nil] at h1
          simp -implicitDefEqProofs [hlt, h4, hw, h1, h9, Next]
      · obtain rfl : i = ps.length := by omega
        simp -implicitDefEqProofs
    · have e := fun K => Grow_call (catN vs ps.length).length (by omega) (by unfold lim; omega) K
      simp -implicitDefEqProofs [e]
      refine WL_for (fun i => ⟨sp 36 [(6, .sl 0 0 (catN vs i).length false), (25, .view q 1 ps), (26, .i .i64 ps.length), (27, .i .i64 i)], [], [.row 1 false ((catN vs i).map .s)]⟩) ps.length (fun _ => True) _ (by simp -implicitDefEqProofs [catN]) trivial ?_
      intro i hi _
      by_cases hlt : i < ps.length
      · have hlt2 : i < vs.length := by omega
        have hw := wrap_i64 (n := (i : Int) + 1) (by omega) (by omega)
        have h1 := catN_succ hlt2
        have h2 := @catN_le vs (i + 1)
        have h8 : (catN vs (i + 1)).length ≤ lim := by unfold lim; omega
        have h9 : (catN vs i).length ≤ lim := by have := congrArg List.length h1; simp at this; unfold lim; omega
        rcases hp i hlt hlt2 with h4 | ⟨h4, h5⟩
        · rw [h1, List.length_append] at h8
          simp -implicitDefEqProofs [hlt, h4, hw, h1, h8, Next]
        · rw [h5, List.append_nil] at h1
          simp -implicitDefEqProofs [hlt, h4, hw, h1, h9, Next]
      · obtain rfl : i = ps.length := by omega
        simp -implicitDefEqProofs
theorem Concat_call (q : Bool) (a b : List Bs) (h : a.length + b.length ≤ lim) (K : Out → Prop) : Call prog 90 ⟨[.view q 1 [.view true 1 (a.map .s), .view true 1 (b.map .s)]], [], []⟩ K = K (.sl 0 0 (a ++ b).length false, [], [.row 1 false ((a ++ b).map .s)]) := by
  have e := Concat_any q [.view true 1 (a.map .s), .view true 1 (b.map .s)] [a, b] rfl (fun i h1 h2 => by
    match i, h1 with
    | 0, _ => exact .inl rfl
    | 1, _ => exact .inl rfl) (by simp [lim]) (by simpa using h) K
  rw [e]
  have : catN [a, b] 2 = a ++ b := by simp [catN]
  show K (.sl 0 0 (catN [a, b] 2).length false, [], [.row 1 false ((catN [a, b] 2).map .s)]) = _
  rw [this]
theorem Concat_call_nil (q : Bool) (b : List Bs) (h : b.length ≤ lim) (K : Out → Prop) : Call prog 90 ⟨[.view q 1 [.nil, .view true 1 (b.map .s)]], [], []⟩ K = K (.sl 0 0 b.length false, [], [.row 1 false (b.map .s)]) := by
  have e := Concat_any q [.nil, .view true 1 (b.map .s)] [[], b] rfl (fun i h1 h2 => by
    match i, h1 with
    | 0, _ => exact .inr ⟨rfl, rfl⟩
    | 1, _ => exact .inl rfl) (by simp [lim]) (by simpa using h) K
  rw [e]
  have : catN [[], b] 2 = b := by simp [catN]
  show K (.sl 0 0 (catN [[], b] 2).length false, [], [.row 1 false ((catN [[], b] 2).map .s)]) = _
  rw [this]

/-- What is asked along the way. -/
structure FInv (p : Pr) (l : List Bs) (x : Nat × Int × Nat × List Bs × Nat × Nat) : Prop where
  e : fndF p 1000 p.root 0 l = fndF p x.1 x.2.1 x.2.2.1 (x.2.2.2.1.drop x.2.2.2.2.1)
  o : x.2.2.2.1.length = x.2.2.2.2.1 + x.2.2.2.2.2
  f : x.2.2.1 ≤ 8
  s : x.2.2.2.2.2 ≤ 6 * (x.2.2.1 + 1)
  n : (8 - x.2.2.1) * 64 + x.2.2.2.2.2 < x.1

set_option maxHeartbeats 2000000 in
theorem find_call (q : Bool) (p : Pr) (h : p.Ok) (l : List Bs) (hl : l.length ≤ 6) (K : Out → Prop) :
    Call prog 55 ⟨[.vp (prC q p), .sl 0 0 l.length false], [], [.row 1 false (l.map .s)]⟩ K = K (.tup [.i .i64 (fnd p l).1, .i .i64 (fnd p l).2], [], []) := by
  refine Call_det ?_ K
  rw [Call_sp (p := prog) (f := 55) rfl _ _ _ rfl (by decide)]
  have e0 := fun K => root_call q p h K
  by_cases c0 : p.root = 0
  · have hF : fnd p l = (0, 6) := if_pos c0
    rw [c0] at e0
    rw [hF]
    simp -implicitDefEqProofs [e0]
  · have hF : fnd p l = fndF p 1000 p.root 0 l := if_neg c0
    rw [hF]
    simp -implicitDefEqProofs [e0, c0]
    refine WL_st (α := Nat × Int × Nat × List Bs × Nat × Nat) (fun x => ⟨sp 76 [(0, .vp (prC q p)), (1, .sl 0 x.2.2.2.2.1 x.2.2.2.2.2 false), (6, .i .i64 p.root), (7, .i .i64 x.2.1), (8, .i .i64 x.2.2.1)], [], [.row 1 false (x.2.2.2.1.map .s)]⟩)
      (fun x => x.1) (FInv p l) (1000, p.root, 0, l, 0, l.length) _ (by simp -implicitDefEqProofs) ⟨rfl, by simp, by simp, by simpa using hl, by simp; omega⟩ ?_
    rintro ⟨n, k, f, xs, o, r⟩ ⟨he, ho, hf, hs, hn⟩
    simp only at he ho hf hs hn
    obtain ⟨n, rfl⟩ : ∃ m, n = m + 1 := ⟨n - 1, by omega⟩
    rw [he]
    by_cases c1 : 0 < r
    · have c4 : o < xs.length := by omega
      have hd : xs.drop o = xs[o] :: xs.drop (o + 1) := List.drop_eq_getElem_cons c4
      rw [hd]
      rw [hd] at he
      have e1 := fun K => group_call q p h k K
      unfold grpOut at e1
      cases c3 : p.grp k with
      | error c =>
        rw [fndF_err c3]
        simp only [c3] at e1
        have hc : ¬ c = 0 := by have := grp_code c3; omega
        simp -implicitDefEqProofs [e1, hc, c1]
      | ok g =>
        simp only [c3] at e1
        have f0 := (lksOk_facts (grp_facts c3)).1
        have e2 := fun q q1 q2 K => groupLink_call q g.links xs[o] (by unfold lim; omega) K k g.hd.kind g.hd.refs q1 q2 g.hd.msgs g.heap
        have c6 : (1 : Int) ≤ (r : Int) := by omega
        have nn : ∀ j : Nat, ¬ (j : Int) < 0 := fun j => by omega
        rcases linkAt_cases g.links xs[o] with hm | ⟨j, hj, hm, _⟩
        · rw [fndF_no c3 hm]
          rw [hm] at e2
          simp -implicitDefEqProofs [e1, e2, c1, c4, c6]
        · rw [hm] at e2
          by_cases c5 : g.links[j].target = []
          · have hF2 := fndF_hard (n := n) (f := f) (l := xs.drop (o + 1)) c3 hj hm c5
            rw [hF2]
            simp -implicitDefEqProofs [e1, e2, c1, c4, c6, nn, hj, lkV, c5, Next]
            refine NextS.mk (n, g.links[j].block, f, xs, o + 1, r - 1) ⟨by rw [he, hF2], by simp only; omega, hf, by simp only; omega, by simp only; omega⟩ ?_ ?_
            · simp
            · simp -implicitDefEqProofs
          · obtain ⟨m, hm1, hm2, hm3⟩ := link_path c3 hj c5
            by_cases c7 : f = 8
            · subst c7
              rw [fndF_loop c3 hj hm c5]
              simp -implicitDefEqProofs [e1, e2, c1, c4, c6, nn, hj, lkV, c5, Next]
            · have hF2 := fndF_soft (n := n) (l := xs.drop (o + 1)) c3 hj hm c5 c7
              rw [hm1, Option.getD_some] at hF2
              rw [hF2]
              have c8 : ¬ (f : Int) = 8 := by omega
              have e3 := fun K => splitPath_call g.links[j].target hm3 K
              unfold pathOut at e3
              simp only [hm1] at e3
              have hw := wrap_i64 (n := (f : Int) + 1) (by omega) (by omega)
              obtain ⟨ys, hys⟩ : ∃ ys, ys = xs.drop (o + 1) := ⟨_, rfl⟩
              have hyl : ys.length = r - 1 := by rw [hys, List.length_drop]; omega
              have hX : List.take (r - 1) (List.drop (o + 1) (List.map V.s xs)) = ys.map V.s := by
                rw [hys, List.map_drop]
                exact List.take_of_length_le (by simp; omega)
              rw [← hys] at hF2 ⊢
              by_cases c9 : m = []
              · subst c9
                simp only [true_and, if_true] at e3
                have e4 := fun K => Concat_call_nil false ys (by unfold lim; omega) K
                simp -implicitDefEqProofs [e1, e2, e3, e4, hX, c1, c4, c6, nn, hj, lkV, c5, c8, hw, Next]
                refine NextS.mk (n, p.root, f + 1, ys, 0, ys.length) ⟨by rw [he, hys, fndF_soft c3 hj hm c5 c7, hm1]; simp, by simp, by simp only; omega, by simp only; omega, by simp only; omega⟩ (by simp) ?_
                simp -implicitDefEqProofs
              · simp only [c9, false_and, if_false] at e3
                have e4 := fun K => Concat_call false m ys (by unfold lim; omega) K
                simp -implicitDefEqProofs [e1, e2, e3, e4, hX, c1, c4, c6, nn, hj, lkV, c5, c8, hw, Next]
                refine NextS.mk (n, p.root, f + 1, m ++ ys, 0, (m ++ ys).length) ⟨by rw [he, hys, fndF_soft c3 hj hm c5 c7, hm1]; simp, by simp, by simp only; omega, by simp only [List.length_append]; omega, by simp only [List.length_append]; omega⟩ (by simp) ?_
                simp -implicitDefEqProofs
    · obtain rfl : r = 0 := by omega
      have hd : xs.drop o = [] := List.drop_eq_nil_of_le (by omega)
      rw [hd, fndF_nil]
      simp -implicitDefEqProofs

theorem find_nil (q : Bool) (p : Pr) (h : p.Ok) (K : Out → Prop) :
    Call prog 55 ⟨[.vp (prC q p), .nil], [], []⟩ K = K (.tup [.i .i64 (fnd p []).1, .i .i64 (fnd p []).2], [], []) := by
  refine Call_det ?_ K
  rw [Call_sp (p := prog) (f := 55) rfl _ _ _ rfl (by decide)]
  have e0 := fun K => root_call q p h K
  by_cases c0 : p.root = 0
  · have hF : fnd p [] = (0, 6) := if_pos c0
    rw [c0] at e0
    rw [hF]
    simp -implicitDefEqProofs [e0]
  · have hF : fnd p [] = (p.root, 0) := if_neg c0
    rw [hF]
    simp -implicitDefEqProofs [e0, c0]
    refine WL_st (α := Unit) (fun x => ⟨sp 76 [(0, .vp (prC q p)), (1, .sl 0 0 0 false), (6, .i .i64 p.root), (7, .i .i64 p.root), (8, .i .i64 0)], [], [.row 1 false []]⟩)
      (fun x => 0) (fun _ => True) () _ (by simp -implicitDefEqProofs) trivial ?_
    rintro _ _
    simp -implicitDefEqProofs
end Go.VS
end
section
namespace Go.VS
set_option linter.unusedSimpArgs false

set_option maxHeartbeats 2000000 in
theorem l17Find_call (q : Bool) (p : Pr) (h : p.Ok) (l : List Bs) (hl : l.length ≤ 6) (K : Out → Prop) :
    Call prog 17 ⟨[.vp (prC q p), .sl 0 0 l.length false], [], [.row 1 false (l.map .s)]⟩ K = K (.tup [.i .i64 (fnd p l).1, .i .i64 (fnd p l).2], [], []) := by
  refine Call_det ?_ K
  rw [Call_sp (p := prog) (f := 17) rfl _ _ _ rfl (by decide)]
  have e0 := fun K => l13Root_call q p h K
  by_cases c0 : p.root = 0
  · have hF : fnd p l = (0, 6) := if_pos c0
    rw [c0] at e0
    rw [hF]
    simp -implicitDefEqProofs [e0]
  · have hF : fnd p l = fndF p 1000 p.root 0 l := if_neg c0
    rw [hF]
    simp -implicitDefEqProofs [e0, c0]
    refine WL_st (α := Nat × Int × Nat × List Bs × Nat × Nat) (fun x => ⟨sp 71 [(0, .vp (prC q p)), (6, .i .i64 x.2.1), (7, .sl 0 x.2.2.2.2.1 x.2.2.2.2.2 false), (8, .i .i64 x.2.2.1)], [], [.row 1 false (x.2.2.2.1.map .s)]⟩)
      (fun x => x.1) (FInv p l) (1000, p.root, 0, l, 0, l.length) _ (by simp -implicitDefEqProofs) ⟨rfl, by simp, by simp, by simpa using hl, by simp; omega⟩ ?_
    rintro ⟨n, k, f, xs, o, r⟩ ⟨he, ho, hf, hs, hn⟩
    simp only at he ho hf hs hn
    obtain ⟨n, rfl⟩ : ∃ m, n = m + 1 := ⟨n - 1, by omega⟩
    rw [he]
    by_cases c1 : 0 < r
    · have c4 : o < xs.length := by omega
      have hd : xs.drop o = xs[o] :: xs.drop (o + 1) := List.drop_eq_getElem_cons c4
      rw [hd]
      rw [hd] at he
      have e1 := fun K => l17Read_call q p h k K
      unfold sgrpOut at e1
      cases c3 : p.grp k with
      | error c =>
        rw [fndF_err c3]
        simp only [c3] at e1
        have hc : ¬ c = 0 := by have := grp_code c3; omega
        simp -implicitDefEqProofs [e1, hc, c1]
      | ok g =>
        simp only [c3] at e1
        have f0 := (lksOk_facts (grp_facts c3)).1
        have e2 := fun q K => l17Link_call q g.links xs[o] (by unfold lim; omega) K
        have c6 : (1 : Int) ≤ (r : Int) := by omega
        have nn : ∀ j : Nat, ¬ (j : Int) < 0 := fun j => by omega
        rcases linkAt_cases g.links xs[o] with hm | ⟨j, hj, hm, _⟩
        · rw [fndF_no c3 hm]
          rw [hm] at e2
          simp -implicitDefEqProofs [e1, e2, c1, c4, c6]
        · rw [hm] at e2
          by_cases c5 : g.links[j].target = []
          · have hF2 := fndF_hard (n := n) (f := f) (l := xs.drop (o + 1)) c3 hj hm c5
            rw [hF2]
            simp -implicitDefEqProofs [e1, e2, c1, c4, c6, nn, hj, lkV, c5, Next]
            refine NextS.mk (n, g.links[j].block, f, xs, o + 1, r - 1) ⟨by rw [he, hF2], by simp only; omega, hf, by simp only; omega, by simp only; omega⟩ ?_ ?_
            · simp
            · simp -implicitDefEqProofs
          · obtain ⟨m, hm1, hm2, hm3⟩ := link_path c3 hj c5
            by_cases c7 : f = 8
            · subst c7
              rw [fndF_loop c3 hj hm c5]
              simp -implicitDefEqProofs [e1, e2, c1, c4, c6, nn, hj, lkV, c5, Next]
            · have hF2 := fndF_soft (n := n) (l := xs.drop (o + 1)) c3 hj hm c5 c7
              rw [hm1, Option.getD_some] at hF2
              rw [hF2]
              have c8 : ¬ (f : Int) = 8 := by omega
              have e3 := fun K => l17Split_call g.links[j].target hm3 K
              unfold pathOut at e3
              simp only [hm1, Bool.false_eq_true, and_false, if_false] at e3
              have hw := wrap_i64 (n := (f : Int) + 1) (by omega) (by omega)
              obtain ⟨ys, hys⟩ : ∃ ys, ys = xs.drop (o + 1) := ⟨_, rfl⟩
              have hyl : ys.length = r - 1 := by rw [hys, List.length_drop]; omega
              have hX : List.take (r - 1) (List.drop (o + 1) (List.map V.s xs)) = ys.map V.s := by
                rw [hys, List.map_drop]
                exact List.take_of_length_le (by simp; omega)
              rw [← hys] at hF2 ⊢
              have c10 : m.length ≤ lim := by unfold lim; omega
              have c11 : m.length + ys.length ≤ lim := by unfold lim; omega
              simp -implicitDefEqProofs [e0, e1, e2, e3, hX, c1, c4, c6, nn, hj, lkV, c5, c8, hw, c10, c11, Next]
              refine NextS.mk (n, p.root, f + 1, m ++ ys, 0, (m ++ ys).length) ⟨by rw [he, hys, fndF_soft c3 hj hm c5 c7, hm1]; simp, by simp, by simp only; omega, by simp only [List.length_append]; omega, by simp only [List.length_append]; omega⟩ (by simp) ?_
              simp -implicitDefEqProofs
    · obtain rfl : r = 0 := by omega
      have hd : xs.drop o = [] := List.drop_eq_nil_of_le (by omega)
      rw [hd, fndF_nil]
      simp -implicitDefEqProofs
end Go.VS
end
section
namespace Go.VS
set_option linter.unusedSimpArgs false
set_option maxRecDepth 8000
attribute [-simp] isLeaf

def fpath (p : Pr) (s : Bs) : Int × Int := if p.ok = true then match pathOf s with
  | none => (0, 1)
  | some l => fnd p l
  else (0, 1)
theorem findPath_call (q : Bool) (p : Pr) (h : p.Ok) (s : Bs) (hs : s.length ≤ lim) (l : List Bs) (hl : pathOf s = some l) (K : Out → Prop) :
    Call prog 23 ⟨[.vp (prC q p), .s s], [], []⟩ K = K (.tup [.i .i64 (fnd p l).1, .i .i64 (fnd p l).2], [], []) := by
  refine Call_det ?_ K
  rw [Call_sp (p := prog) (f := 23) rfl _ _ _ rfl (by decide)]
  have e0 := fun K => splitPath_call s hs K
  unfold pathOut at e0
  simp only [hl] at e0
  by_cases c : l = []
  · subst c
    simp only [true_and, if_true] at e0
    have e1 := fun K => find_nil q p h K
    simp -implicitDefEqProofs [e0, e1]
  · simp only [c, false_and, if_false] at e0
    have e1 := fun K => find_call q p h l (pathOf_facts hl).1 K
    simp -implicitDefEqProofs [e0, e1]
theorem FindPath_call (q : Bool) (p : Pr) (h : p.sm) (s : Bs) (hs : s.length ≤ lim) (K : Out → Prop) :
    Call prog 3 ⟨[.agg (prC q p), .s s], [], []⟩ K = K (.tup [.i .i64 (fpath p s).1, .i .i64 (fpath p s).2], [], []) := by
  refine Call_det ?_ K
  rw [Call_sp (p := prog) (f := 3) rfl _ _ _ rfl (by decide)]
  have e0 := fun K => ValidPager_call q p h K
  unfold fpath
  cases c0 : p.ok with
  | false => rw [c0] at e0; simp -implicitDefEqProofs [e0]
  | true =>
    rw [c0] at e0
    have e1 := fun K => ValidPath_call s hs K
    cases c1 : pathOf s with
    | none =>
      rw [c1] at e1
      simp -implicitDefEqProofs [e0, e1]
    | some l =>
      rw [c1] at e1
      have e2 := fun K => findPath_call q p (Pr.ok_facts c0) s hs l c1 K
      simp -implicitDefEqProofs [e0, e1, e2]
theorem sFindPath_call (q : Bool) (p : Pr) (h : p.sm) (s : Bs) (hs : s.length ≤ lim) (K : Out → Prop) :
    Call prog 2 ⟨[.agg (prC q p), .s s], [], []⟩ K = K (.tup [.i .i64 (fpath p s).1, .i .i64 (fpath p s).2], [], []) := by
  refine Call_det ?_ K
  rw [Call_sp (p := prog) (f := 2) rfl _ _ _ rfl (by decide)]
  have e0 := fun K => l12Ok_call q p h K
  have e1 := fun K => l17Split_call s hs K
  unfold pathOut at e1
  unfold fpath
  cases c1 : pathOf s with
  | none =>
    simp only [c1] at e1
    cases c0 : p.ok <;> rw [c0] at e0 <;> simp -implicitDefEqProofs [e0, e1]
  | some l =>
    simp only [c1, Bool.false_eq_true, and_false, if_false] at e1
    cases c0 : p.ok with
    | false => rw [c0] at e0; simp -implicitDefEqProofs [e0, e1]
    | true =>
      rw [c0] at e0
      have e2 := fun K => l17Find_call q p (Pr.ok_facts c0) l (pathOf_facts c1).1 K
      simp -implicitDefEqProofs [e0, e1, e2]
set_option maxHeartbeats 4000000 in
theorem findLaw (n : N4) (p : Pr) (h : p.big) (s : Bs) (K : Out → Prop) : Call prog 181 ⟨[.agg (prR n p), .s s], [], []⟩ K = K (.b true, [], []) := by
  refine Call_det ?_ K
  rw [Call_sp (p := prog) (f := 181) rfl _ _ _ rfl (by decide)]
  have e0 := fun K => szPager_call n p h 1048576 (by decide) (by decide) K
  by_cases cs : (1048576 : Int) < s.length
  · simp only [prR]
    simp -implicitDefEqProofs [prR, cs]
  by_cases c0 : (p.tot : Int) ≤ 1048576
  · obtain ⟨sm, hl⟩ := Pr.sm_of c0
    have m0 : minus 1048576 p.tot = 1048576 - p.tot := if_pos c0
    rw [m0] at e0
    have c1 : ¬ (1048576 : Int) - p.tot < 0 := by omega
    have hs : s.length ≤ lim := by unfold lim; omega
    have e1 := fun K => toPager_call n p sm K
    have e2 := fun K => sFindPath_call false p sm s hs K
    have e3 := fun K => FindPath_call false p sm s hs K
    have e4 := fun K => eqPager_call false false p sm K
    simp only [prR, prW, prRows, prC, Tag_eq, Bool.false_eq_true, if_false, Int.natCast_one] at e0 e1 e2 e3 e4
    simp -implicitDefEqProofs [prR, e0, e1, e2, e3, e4, c1, cs]
  · have m0 : minus 1048576 p.tot = -1 := if_neg c0
    rw [m0] at e0
    simp only [prR] at e0
    simp -implicitDefEqProofs [prR, e0, cs]
end Go.VS
end
