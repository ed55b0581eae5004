/-
  What the law of WalkStore answers: true, for all arguments.
-/
import Derived.Test.YtekbnablgfhhpaaGreatDoorB4
set_option linter.all false
section
namespace Go.VS
set_option linter.unusedSimpArgs false

def big : Nat := 9223372036854775808
def sumL (l : List Bs) : Nat := (l.map List.length).sum
def totS (l : List Bs) : Nat := l.length + sumL l
theorem sumL_succ {l : List Bs} {i : Nat} (h : i < l.length) : sumL (l.take (i + 1)) = sumL (l.take i) + l[i].length := by
  unfold sumL
  rw [← List.take_append_getElem h, List.map_append, List.sum_append]; simp
theorem sumL_take {l : List Bs} (i : Nat) : sumL (l.take i) ≤ sumL l := by
  unfold sumL
  conv => rhs; rw [← List.take_append_drop i l, List.map_append, List.sum_append]
  omega
/-- What is left of k. -/
def minus (k : Int) (n : Nat) : Int := if (n : Int) ≤ k then k - n else -1
theorem szStringS_call (q : Bool) (l : List Bs) (k : Int) (hl : l.length < big) (hs : ∀ s, s ∈ l → s.length < big) (k0 : 0 ≤ k) (k1 : k ≤ 1048576) (K : Out → Prop) :
    Call prog 33 ⟨[.view q 1 (l.map .s), .i .i64 k], [], []⟩ K = K (.i .i64 (minus k (totS l)), [], []) := by
  refine Call_det ?_ K
  rw [Call_sp (p := prog) (f := 33) rfl _ _ _ rfl (by decide)]
  unfold big at hl hs
  have w0 := wrap_i64 (n := k - l.length) (by omega) (by omega)
  by_cases c0 : k - l.length < 0
  · have : minus k (totS l) = -1 := by unfold minus totS; rw [if_neg (by push_cast; omega)]
    rw [this]
    simp -implicitDefEqProofs [w0, c0]
  · simp -implicitDefEqProofs [w0, c0]
    refine WL_for (fun i => ⟨sp 28 [(0, .view q 1 (l.map .s)), (1, .i .i64 (k - l.length - sumL (l.take i))), (5, .i .i64 i)], [], []⟩) l.length (fun i => (0 : Int) ≤ k - l.length - sumL (l.take i)) _ (by simp -implicitDefEqProofs [sumL]) (by simp [sumL]; omega) ?_
    intro i hi hP
    by_cases hlt : i < l.length
    · have hw := wrap_i64 (n := (i : Int) + 1) (by omega) (by omega)
      have hb := hs _ (List.getElem_mem hlt)
      have hx := sumL_succ hlt
      have ht := sumL_take (l := l) (i + 1)
      have w1 := wrap_i64 (n := k - l.length - sumL (l.take i) - l[i].length) (by omega) (by omega)
      have hx2 : k - l.length - (sumL (l.take (i + 1)) : Int) = k - l.length - sumL (l.take i) - l[i].length := by omega
      by_cases c1 : k - l.length - sumL (l.take i) - l[i].length < 0
      · have : minus k (totS l) = -1 := by unfold minus totS; rw [if_neg (by push_cast; omega)]
        rw [this]
        simp -implicitDefEqProofs [hlt, hw, w1, c1]
      · have c2 : (l[i].length : Int) ≤ k - l.length - sumL (l.take i) := by omega
        simp -implicitDefEqProofs [hlt, hw, w1, c1, c2, hx2, Next]
    · have : i = l.length := by omega
      subst this
      rw [List.take_length] at hP ⊢
      have : minus k (totS l) = k - l.length - sumL l := by unfold minus totS; rw [if_pos (by push_cast; omega)]; push_cast; omega
      rw [this]
      simp -implicitDefEqProofs
def sumP (l : List Pg) : Nat := (l.map fun p => p.data.length).sum
def totP (l : List Pg) : Nat := l.length + sumP l
theorem sumP_succ {l : List Pg} {i : Nat} (h : i < l.length) : sumP (l.take (i + 1)) = sumP (l.take i) + l[i].data.length := by
  unfold sumP
  rw [← List.take_append_getElem h, List.map_append, List.sum_append]; simp
theorem sumP_take {l : List Pg} (i : Nat) : sumP (l.take i) ≤ sumP l := by
  unfold sumP
  conv => rhs; rw [← List.take_append_drop i l, List.map_append, List.sum_append]
  omega
theorem szPut_call (p : Pg) (k : Int) (hs : p.data.length < big) (k0 : 0 ≤ k) (k1 : k ≤ 1048576) (K : Out → Prop) :
    Call prog 67 ⟨[pgV p, .i .i64 k], [], []⟩ K = K (.i .i64 (minus k p.data.length), [], []) := by
  refine Call_det ?_ K
  rw [Call_sp (p := prog) (f := 67) rfl _ _ _ rfl (by decide)]
  unfold big at hs
  have w0 := wrap_i64 (n := k - p.data.length) (by omega) (by omega)
  unfold minus
  by_cases c0 : (p.data.length : Int) ≤ k
  · have c1 : ¬ k - p.data.length < 0 := by omega
    simp -implicitDefEqProofs [pgV, w0, c0, c1]
  · have c1 : k - p.data.length < 0 := by omega
    simp -implicitDefEqProofs [pgV, w0, c0, c1]
theorem szPutS_call (q : Bool) (l : List Pg) (k : Int) (hl : l.length < big) (hs : ∀ s, s ∈ l → s.data.length < big) (k0 : 0 ≤ k) (k1 : k ≤ 1048576) (K : Out → Prop) :
    Call prog 34 ⟨[.view q 2 (l.map pgV), .i .i64 k], [], []⟩ K = K (.i .i64 (minus k (totP l)), [], []) := by
  refine Call_det ?_ K
  rw [Call_sp (p := prog) (f := 34) rfl _ _ _ rfl (by decide)]
  have hl' := hl
  have hs' := hs
  unfold big at hl hs
  have w0 := wrap_i64 (n := k - l.length) (by omega) (by omega)
  by_cases c0 : k - l.length < 0
  · have : minus k (totP l) = -1 := by unfold minus totP; rw [if_neg (by push_cast; omega)]
    rw [this]
    simp -implicitDefEqProofs [w0, c0]
  · simp -implicitDefEqProofs [w0, c0]
    refine WL_for (fun i => ⟨sp 27 [(0, .view q 2 (l.map pgV)), (1, .i .i64 (k - l.length - sumP (l.take i))), (5, .i .i64 i)], [], []⟩) l.length (fun i => (0 : Int) ≤ k - l.length - sumP (l.take i)) _ (by simp -implicitDefEqProofs [sumP]) (by simp [sumP]; omega) ?_
    intro i hi hP
    by_cases hlt : i < l.length
    · have hw := wrap_i64 (n := (i : Int) + 1) (by omega) (by omega)
      have hb := hs _ (List.getElem_mem hlt)
      have hx := sumP_succ hlt
      have ht := sumP_take (l := l) (i + 1)
      have e1 := fun K => szPut_call l[i] (k - l.length - sumP (l.take i)) (hs' _ (List.getElem_mem hlt)) hP (by omega) K
      simp only [pgV] at e1
      have hx2 : k - l.length - (sumP (l.take (i + 1)) : Int) = k - l.length - sumP (l.take i) - l[i].data.length := by omega
      by_cases c1 : (l[i].data.length : Int) ≤ k - l.length - sumP (l.take i)
      · have e2 : minus (k - l.length - sumP (l.take i)) l[i].data.length = k - l.length - sumP (l.take i) - l[i].data.length := if_pos c1
        rw [e2] at e1
        have c2 : 0 ≤ k - l.length - sumP (l.take i) - l[i].data.length := by omega
        have c3 : ¬ k - l.length - sumP (l.take i) - l[i].data.length < 0 := by omega
        simp -implicitDefEqProofs [hlt, hw, pgV, e1, c1, c2, c3, hx2, Next]
      · have e2 : minus (k - l.length - sumP (l.take i)) l[i].data.length = -1 := if_neg c1
        rw [e2] at e1
        have : minus k (totP l) = -1 := by unfold minus totP; rw [if_neg (by push_cast; omega)]
        rw [this]
        simp -implicitDefEqProofs [hlt, hw, pgV, e1]
    · have : i = l.length := by omega
      subst this
      rw [List.take_length] at hP ⊢
      have : minus k (totP l) = k - l.length - sumP l := by unfold minus totP; rw [if_pos (by push_cast; omega)]; push_cast; omega
      rw [this]
      simp -implicitDefEqProofs
theorem szPage_call (p : Pg) (k : Int) (hs : p.data.length < big) (k0 : 0 ≤ k) (k1 : k ≤ 1048576) (K : Out → Prop) :
    Call prog 35 ⟨[pgV p, .i .i64 k], [], []⟩ K = K (.i .i64 (minus k p.data.length), [], []) := by
  refine Call_det ?_ K
  rw [Call_sp (p := prog) (f := 35) rfl _ _ _ rfl (by decide)]
  unfold big at hs
  have w0 := wrap_i64 (n := k - p.data.length) (by omega) (by omega)
  unfold minus
  by_cases c0 : (p.data.length : Int) ≤ k
  · have c1 : ¬ k - p.data.length < 0 := by omega
    simp -implicitDefEqProofs [pgV, w0, c0, c1]
  · have c1 : k - p.data.length < 0 := by omega
    simp -implicitDefEqProofs [pgV, w0, c0, c1]
theorem szPageS_call (q : Bool) (l : List Pg) (k : Int) (hl : l.length < big) (hs : ∀ s, s ∈ l → s.data.length < big) (k0 : 0 ≤ k) (k1 : k ≤ 1048576) (K : Out → Prop) :
    Call prog 14 ⟨[.view q 2 (l.map pgV), .i .i64 k], [], []⟩ K = K (.i .i64 (minus k (totP l)), [], []) := by
  refine Call_det ?_ K
  rw [Call_sp (p := prog) (f := 14) rfl _ _ _ rfl (by decide)]
  have hl' := hl
  have hs' := hs
  unfold big at hl hs
  have w0 := wrap_i64 (n := k - l.length) (by omega) (by omega)
  by_cases c0 : k - l.length < 0
  · have : minus k (totP l) = -1 := by unfold minus totP; rw [if_neg (by push_cast; omega)]
    rw [this]
    simp -implicitDefEqProofs [w0, c0]
  · simp -implicitDefEqProofs [w0, c0]
    refine WL_for (fun i => ⟨sp 27 [(0, .view q 2 (l.map pgV)), (1, .i .i64 (k - l.length - sumP (l.take i))), (5, .i .i64 i)], [], []⟩) l.length (fun i => (0 : Int) ≤ k - l.length - sumP (l.take i)) _ (by simp -implicitDefEqProofs [sumP]) (by simp [sumP]; omega) ?_
    intro i hi hP
    by_cases hlt : i < l.length
    · have hw := wrap_i64 (n := (i : Int) + 1) (by omega) (by omega)
      have hb := hs _ (List.getElem_mem hlt)
      have hx := sumP_succ hlt
      have ht := sumP_take (l := l) (i + 1)
      have e1 := fun K => szPage_call l[i] (k - l.length - sumP (l.take i)) (hs' _ (List.getElem_mem hlt)) hP (by omega) K
      simp only [pgV] at e1
      have hx2 : k - l.length - (sumP (l.take (i + 1)) : Int) = k - l.length - sumP (l.take i) - l[i].data.length := by omega
      by_cases c1 : (l[i].data.length : Int) ≤ k - l.length - sumP (l.take i)
      · have e2 : minus (k - l.length - sumP (l.take i)) l[i].data.length = k - l.length - sumP (l.take i) - l[i].data.length := if_pos c1
        rw [e2] at e1
        have c2 : 0 ≤ k - l.length - sumP (l.take i) - l[i].data.length := by omega
        have c3 : ¬ k - l.length - sumP (l.take i) - l[i].data.length < 0 := by omega
        simp -implicitDefEqProofs [hlt, hw, pgV, e1, c1, c2, c3, hx2, Next]
      · have e2 : minus (k - l.length - sumP (l.take i)) l[i].data.length = -1 := if_neg c1
        rw [e2] at e1
        have : minus k (totP l) = -1 := by unfold minus totP; rw [if_neg (by push_cast; omega)]
        rw [this]
        simp -implicitDefEqProofs [hlt, hw, pgV, e1]
    · have : i = l.length := by omega
      subst this
      rw [List.take_length] at hP ⊢
      have : minus k (totP l) = k - l.length - sumP l := by unfold minus totP; rw [if_pos (by push_cast; omega)]; push_cast; omega
      rw [this]
      simp -implicitDefEqProofs
end Go.VS
end
section
namespace Go.VS
set_option linter.unusedSimpArgs false

/-- A slice that comes from outside. -/
def slc (n : Bool) (z : Nat) (xs : List V) : V := if n = true ∧ xs = [] then .nil else .view true z xs
theorem slc_cases (n : Bool) (z : Nat) (xs : List V) : (slc n z xs = .nil ∧ xs = []) ∨ slc n z xs = .view true z xs := by
  unfold slc; split
  · rename_i h; exact .inl ⟨rfl, h.2⟩
  · exact .inr rfl
@[simp] theorem lend_slc {s : St} {xp : Xp} {k : Nat} (n : Bool) (z : Nat) (xs : List V) : lend s xp (k + 1) (slc n z xs) = slc n z xs := by
  rcases slc_cases n z xs with ⟨h, _⟩ | h <;> rw [h] <;> rfl
@[simp] theorem lendA_slc1 {s : St} {xp : Xp} (n : Bool) (xs : List V) : lendA s xp 1 (slc n 1 xs) = .view true 1 xs := by
  rcases slc_cases n 1 xs with ⟨h, h2⟩ | h <;> rw [h]
  · rw [h2]; rfl
  · rfl
@[simp] theorem lendA_slc2 {s : St} {xp : Xp} (n : Bool) (xs : List V) : lendA s xp 2 (slc n 2 xs) = .view true 2 xs := by
  rcases slc_cases n 2 xs with ⟨h, h2⟩ | h <;> rw [h]
  · rw [h2]; rfl
  · rfl
@[simp] theorem isLeaf_slc (n : Bool) (z : Nat) (xs : List V) : isLeaf (slc n z xs) = true := by
  rcases slc_cases n z xs with ⟨h, _⟩ | h <;> rw [h] <;> rfl
attribute [-simp] isLeaf
@[simp] theorem isLeaf_i (k x) : isLeaf (.i k x) = true := rfl
@[simp] theorem isLeaf_b (x) : isLeaf (.b x) = true := rfl
@[simp] theorem isLeaf_s (x) : isLeaf (.s x) = true := rfl
@[simp] theorem isLeaf_nil : isLeaf .nil = true := rfl
@[simp] theorem isLeaf_view (q z xs) : isLeaf (.view q z xs) = true := rfl
@[simp] theorem isLeaf_sl (a b c d) : isLeaf (.sl a b c d) = true := rfl
@[simp] theorem isLeaf_ptr (a b) : isLeaf (.ptr a b) = true := rfl
structure N4 where
  a : Bool
  b : Bool
  c : Bool
  d : Bool
def dkR (n : N4) (d : Dk) : List V := [slc n.a 1 (d.blocks.map .s), slc n.b 2 (d.pend.map pgV), .i .i64 d.fuse, .b d.off]
def prR (n : N4) (p : Pr) : List V := [slc n.a 1 (p.disk.blocks.map .s), slc n.b 2 (p.disk.pend.map pgV), .i .i64 p.disk.fuse, .b p.disk.off,
  .i .i64 p.su.blocks, .i .i64 p.su.log, .i .i64 p.su.seq, .i .i64 p.su.turn, .i .i64 p.seq, .i .i64 p.at_, slc n.c 2 (p.logged.map pgV), slc n.d 2 (p.dirty.map pgV)]
def Dk.tot (d : Dk) : Nat := totS d.blocks + totP d.pend
def Pr.tot (p : Pr) : Nat := p.disk.tot + totP p.logged + totP p.dirty
structure Dk.big (d : Dk) : Prop where
  b : d.blocks.length < Go.VS.big
  bs : ∀ s, s ∈ d.blocks → s.length < Go.VS.big
  p : d.pend.length < Go.VS.big
  ps : ∀ s, s ∈ d.pend → s.data.length < Go.VS.big
structure Pr.big (p : Pr) : Prop where
  d : p.disk.big
  l : p.logged.length < Go.VS.big
  ls : ∀ s, s ∈ p.logged → s.data.length < Go.VS.big
  y : p.dirty.length < Go.VS.big
  ys : ∀ s, s ∈ p.dirty → s.data.length < Go.VS.big
theorem minus_lt {k : Int} {a : Nat} (h : minus k a < 0) : minus k a = -1 := by
  unfold minus at h ⊢; split
  · rename_i c; rw [if_pos c] at h; omega
  · rfl
theorem minus_neg {k : Int} {a : Nat} (b : Nat) (h : ¬ (a : Int) ≤ k) : minus k a = -1 ∧ minus k (a + b) = -1 := by
  unfold minus; constructor
  · exact if_neg h
  · exact if_neg (by push_cast; omega)
theorem minus_pos {k : Int} {a : Nat} (b : Nat) (h : (a : Int) ≤ k) : minus k a = k - a ∧ minus (k - a) b = minus k (a + b) := by
  unfold minus; constructor
  · exact if_pos h
  · by_cases c : (b : Int) ≤ k - a
    · rw [if_pos c, if_pos (by push_cast; omega)]; push_cast; omega
    · rw [if_neg c, if_neg (by push_cast; omega)]
theorem szDisk_call (n : N4) (d : Dk) (h : d.big) (k : Int) (k0 : 0 ≤ k) (k1 : k ≤ 1048576) (K : Out → Prop) :
    Call prog 13 ⟨[.agg (dkR n d), .i .i64 k], [], []⟩ K = K (.i .i64 (minus k d.tot), [], []) := by
  refine Call_det ?_ K
  rw [Call_sp (p := prog) (f := 13) rfl _ _ _ rfl (by decide)]
  have e1 := fun K => szStringS_call true d.blocks k h.b h.bs k0 k1 K
  unfold Dk.tot dkR
  by_cases c1 : (totS d.blocks : Int) ≤ k
  · obtain ⟨m1, m2⟩ := minus_pos (totP d.pend) c1
    rw [m1] at e1
    have e2 := fun K => szPutS_call true d.pend (k - totS d.blocks) h.p h.ps (by omega) (by omega) K
    rw [m2] at e2
    have c2 : ¬ k - totS d.blocks < 0 := by omega
    by_cases c3 : minus k (totS d.blocks + totP d.pend) < 0
    · have : minus k (totS d.blocks + totP d.pend) = -1 := minus_lt c3
      rw [this] at e2 ⊢
      simp -implicitDefEqProofs [e1, e2, c2]
    · simp -implicitDefEqProofs [e1, e2, c2, c3]
  · obtain ⟨m1, m2⟩ := minus_neg (totP d.pend) c1
    rw [m1] at e1
    rw [m2]
    simp -implicitDefEqProofs [e1]
theorem szPager_call (n : N4) (p : Pr) (h : p.big) (k : Int) (k0 : 0 ≤ k) (k1 : k ≤ 1048576) (K : Out → Prop) :
    Call prog 0 ⟨[.agg (prR n p), .i .i64 k], [], []⟩ K = K (.i .i64 (minus k p.tot), [], []) := by
  refine Call_det ?_ K
  rw [Call_sp (p := prog) (f := 0) rfl _ _ _ rfl (by decide)]
  have e1 := fun K => szDisk_call n p.disk h.d k k0 k1 K
  unfold dkR at e1
  unfold Pr.tot prR
  by_cases c1 : (p.disk.tot : Int) ≤ k
  · obtain ⟨m1, m2⟩ := minus_pos (totP p.logged) c1
    rw [m1] at e1
    have e2 := fun K => szPageS_call true p.logged (k - p.disk.tot) h.l h.ls (by omega) (by omega) K
    rw [m2] at e2
    have c2 : ¬ k - p.disk.tot < 0 := by omega
    by_cases c3 : ((p.disk.tot + totP p.logged : Nat) : Int) ≤ k
    · obtain ⟨m3, m4⟩ := minus_pos (totP p.dirty) c3
      rw [m3] at e2
      have e3 := fun K => szPageS_call true p.dirty (k - (p.disk.tot + totP p.logged : Nat)) h.y h.ys (by omega) (by omega) K
      rw [m4] at e3
      have c4 : ¬ k - ((p.disk.tot + totP p.logged : Nat) : Int) < 0 := by omega
      generalize ((p.disk.tot + totP p.logged : Nat) : Int) = z at e2 e3 c4
      by_cases c5 : minus k (p.disk.tot + totP p.logged + totP p.dirty) < 0
      · have : minus k (p.disk.tot + totP p.logged + totP p.dirty) = -1 := minus_lt c5
        rw [this] at e3 ⊢
        simp -implicitDefEqProofs [e1, e2, e3, c2, c4]
      · simp -implicitDefEqProofs [e1, e2, e3, c2, c4, c5]
    · obtain ⟨m3, m4⟩ := minus_neg (totP p.dirty) c3
      rw [m3] at e2
      rw [m4]
      simp -implicitDefEqProofs [e1, e2, c2]
  · obtain ⟨m1, m2⟩ := minus_neg (totP p.logged + totP p.dirty) c1
    rw [m1] at e1
    rw [Nat.add_assoc, m2]
    simp -implicitDefEqProofs [e1]
end Go.VS
end
section
namespace Go.VS
set_option linter.unusedSimpArgs false
set_option maxRecDepth 4000

theorem fill_get {α : Type} {xs : List α} {d e : α} {i n : Nat} (h : i < n) (hn : xs.length = n) : (xs.take i ++ List.replicate (n - i) d)[i]?.getD e = d := by
  have h1 : (xs.take i).length = i := by rw [List.length_take]; omega
  rw [List.getElem?_append_right (by omega), h1, Nat.sub_self, List.getElem?_replicate, if_pos (by omega)]; rfl
theorem fill_set {α : Type} {xs : List α} {d x : α} {i n : Nat} (h : i < n) (hn : xs.length = n) (hx : xs[i]? = some x) : (xs.take i ++ List.replicate (n - i) d).set i x = xs.take (i + 1) ++ List.replicate (n - (i + 1)) d := by
  have h1 : (xs.take i).length = i := by rw [List.length_take]; omega
  obtain ⟨h2, h3⟩ := List.getElem?_eq_some_iff.1 hx
  rw [List.set_append_right _ _ (by omega), h1, Nat.sub_self, show n - i = (n - (i + 1)) + 1 by omega, List.replicate_succ, List.set_cons_zero, ← List.take_append_getElem h2, h3, List.append_assoc]; rfl
theorem toPage_call (p : Pg) (K : Out → Prop) : Call prog 48 ⟨[pgV p], [], []⟩ K = K (pgV p, [], []) := by
  refine Call_det ?_ K
  rw [Call_sp (p := prog) (f := 48) rfl _ _ _ rfl (by decide)]
  simp -implicitDefEqProofs [pgV]
theorem toPut_call (p : Pg) (K : Out → Prop) : Call prog 77 ⟨[pgV p], [], []⟩ K = K (pgV p, [], []) := by
  refine Call_det ?_ K
  rw [Call_sp (p := prog) (f := 77) rfl _ _ _ rfl (by decide)]
  simp -implicitDefEqProofs [pgV]
theorem toSuper_call (s : Su) (K : Out → Prop) : Call prog 19 ⟨[.agg (suC s)], [], []⟩ K = K (.agg (suC s), [], []) := by
  refine Call_det ?_ K
  rw [Call_sp (p := prog) (f := 19) rfl _ _ _ rfl (by decide)]
  obtain ⟨a, b, c, d⟩ := s
  simp -implicitDefEqProofs [suC, -Int.natCast_eq_zero]
theorem toStringS_call (q : Bool) (l : List Bs) (hl : l.length ≤ lim) (K : Out → Prop) : Call prog 46 ⟨[.view q 1 (l.map V.s)], [], []⟩ K = K (.sl 0 0 l.length false, [], [.row 1 false (l.map V.s)]) := by
  refine Call_det ?_ K
  rw [Call_sp (p := prog) (f := 46) rfl _ _ _ rfl (by decide)]
  have hl' := hl
  unfold lim at hl'
  simp -implicitDefEqProofs [hl]
  refine WL_for (fun i => ⟨sp 22 [(0, .view q 1 (l.map V.s)), (3, .sl 0 0 l.length false), (4, .i .i64 i)], [], [.row 1 false ((l.map V.s).take i ++ List.replicate (l.length - i) (V.s []))]⟩) l.length (fun _ => True) _ (by simp -implicitDefEqProofs) trivial ?_
  intro i hi _
  by_cases hlt : i < l.length
  · have hw := wrap_i64 (n := (i : Int) + 1) (by omega) (by omega)
    have h1 := fill_get (xs := l.map V.s) (d := V.s []) (e := V.no) hlt (by simp)
    have h2 := fill_set (xs := l.map V.s) (d := V.s []) (x := V.s l[i]) hlt (by simp) (by simp [hlt])
    simp -implicitDefEqProofs [hlt, hw, h1, h2, Next]
  · have : i = l.length := by omega
    subst this
    have ht : (l.map V.s).take l.length = l.map V.s := by rw [List.take_of_length_le (by simp)]
    simp -implicitDefEqProofs [ht]
theorem toPutS_call (q : Bool) (l : List Pg) (hl : l.length ≤ lim) (K : Out → Prop) : Call prog 47 ⟨[.view q 2 (l.map pgV)], [], []⟩ K = K (.sl 0 0 l.length false, [], [.row 2 false (l.map pgV)]) := by
  refine Call_det ?_ K
  rw [Call_sp (p := prog) (f := 47) rfl _ _ _ rfl (by decide)]
  have hl' := hl
  unfold lim at hl'
  simp -implicitDefEqProofs [hl]
  refine WL_for (fun i => ⟨sp 23 [(0, .view q 2 (l.map pgV)), (3, .sl 0 0 l.length false), (4, .i .i64 i)], [], [.row 2 false ((l.map pgV).take i ++ List.replicate (l.length - i) (V.agg [.i .i64 0, .s []]))]⟩) l.length (fun _ => True) _ (by simp -implicitDefEqProofs) trivial ?_
  intro i hi _
  by_cases hlt : i < l.length
  · have hw := wrap_i64 (n := (i : Int) + 1) (by omega) (by omega)
    have h1 := fill_get (xs := l.map pgV) (d := V.agg [.i .i64 0, .s []]) (e := V.no) hlt (by simp)
    have h2 := fill_set (xs := l.map pgV) (d := V.agg [.i .i64 0, .s []]) (x := pgV l[i]) hlt (by simp) (by simp [hlt])
    have e1 := fun K => toPut_call l[i] K
    simp only [pgV] at e1
    simp only [pgV] at h2
    simp -implicitDefEqProofs [hlt, hw, h1, h2, e1, pgV, Next]
  · have : i = l.length := by omega
    subst this
    have ht : (l.map pgV).take l.length = l.map pgV := by rw [List.take_of_length_le (by simp)]
    simp -implicitDefEqProofs [ht]
theorem toPageS_call (q : Bool) (l : List Pg) (hl : l.length ≤ lim) (K : Out → Prop) : Call prog 20 ⟨[.view q 2 (l.map pgV)], [], []⟩ K = K (.sl 0 0 l.length false, [], [.row 2 false (l.map pgV)]) := by
  refine Call_det ?_ K
  rw [Call_sp (p := prog) (f := 20) rfl _ _ _ rfl (by decide)]
  have hl' := hl
  unfold lim at hl'
  simp -implicitDefEqProofs [hl]
  refine WL_for (fun i => ⟨sp 23 [(0, .view q 2 (l.map pgV)), (3, .sl 0 0 l.length false), (4, .i .i64 i)], [], [.row 2 false ((l.map pgV).take i ++ List.replicate (l.length - i) (V.agg [.i .i64 0, .s []]))]⟩) l.length (fun _ => True) _ (by simp -implicitDefEqProofs) trivial ?_
  intro i hi _
  by_cases hlt : i < l.length
  · have hw := wrap_i64 (n := (i : Int) + 1) (by omega) (by omega)
    have h1 := fill_get (xs := l.map pgV) (d := V.agg [.i .i64 0, .s []]) (e := V.no) hlt (by simp)
    have h2 := fill_set (xs := l.map pgV) (d := V.agg [.i .i64 0, .s []]) (x := pgV l[i]) hlt (by simp) (by simp [hlt])
    have e1 := fun K => toPage_call l[i] K
    simp only [pgV] at e1
    simp only [pgV] at h2
    simp -implicitDefEqProofs [hlt, hw, h1, h2, e1, pgV, Next]
  · have : i = l.length := by omega
    subst this
    have ht : (l.map pgV).take l.length = l.map pgV := by rw [List.take_of_length_le (by simp)]
    simp -implicitDefEqProofs [ht]
end Go.VS
end
section
namespace Go.VS
set_option linter.unusedSimpArgs false
set_option maxRecDepth 4000
attribute [-simp] isLeaf

def dkW (d : Dk) : List V := [.sl 0 0 d.blocks.length false, .sl 1 0 d.pend.length false, .i .i64 d.fuse, .b d.off]
def dkRows (d : Dk) : List Rw := [.row 1 false (d.blocks.map .s), .row 2 false (d.pend.map pgV)]
/-- A pager of one's own. -/
def prW (p : Pr) : List V := [.sl 0 0 p.disk.blocks.length false, .sl 1 0 p.disk.pend.length false, .i .i64 p.disk.fuse, .b p.disk.off,
  .i .i64 p.su.blocks, .i .i64 p.su.log, .i .i64 p.su.seq, .i .i64 p.su.turn, .i .i64 p.seq, .i .i64 p.at_, .sl 2 0 p.logged.length false, .sl 3 0 p.dirty.length false]
def prRows (p : Pr) : List Rw := [.row 1 false (p.disk.blocks.map .s), .row 2 false (p.disk.pend.map pgV), .row 2 false (p.logged.map pgV), .row 2 false (p.dirty.map pgV)]
theorem toDisk_call (n : N4) (d : Dk) (h1 : d.blocks.length ≤ lim) (h2 : d.pend.length ≤ lim) (K : Out → Prop) :
    Call prog 18 ⟨[.agg (dkR n d)], [], []⟩ K = K (.agg (dkW d), [], dkRows d) := by
  refine Call_det ?_ K
  rw [Call_sp (p := prog) (f := 18) rfl _ _ _ rfl (by decide)]
  obtain ⟨bl, pe, fu, off⟩ := d
  have e1 := fun K => toStringS_call true bl h1 K
  have e2 := fun K => toPutS_call true pe h2 K
  simp -implicitDefEqProofs [dkR, dkW, dkRows, e1, e2]
theorem toPager_call (n : N4) (p : Pr) (h : p.sm) (K : Out → Prop) :
    Call prog 1 ⟨[.agg (prR n p)], [], []⟩ K = K (.agg (prW p), [], prRows p) := by
  refine Call_det ?_ K
  rw [Call_sp (p := prog) (f := 1) rfl _ _ _ rfl (by decide)]
  have e1 := fun K => toDisk_call n p.disk h.sb h.sp K
  have e2 := fun K => toSuper_call p.su K
  have e3 := fun K => toPageS_call true p.logged h.sl K
  have e4 := fun K => toPageS_call true p.dirty h.sd K
  obtain ⟨⟨bl, pe, fu, off⟩, ⟨a, b, c, d⟩, sq, at_, lo, di⟩ := p
  simp only [dkR, dkW, dkRows, suC] at e1 e2 e3 e4
  simp -implicitDefEqProofs [prR, prW, prRows, e1, e2, e3, e4]
end Go.VS
end
section
namespace Go.VS
set_option linter.unusedSimpArgs false
set_option maxRecDepth 4000
attribute [-simp] isLeaf

theorem eqPage_call (p : Pg) (K : Out → Prop) : Call prog 58 ⟨[pgV p, pgV p], [], []⟩ K = K (.b true, [], []) := by
  refine Call_det ?_ K
  rw [Call_sp (p := prog) (f := 58) rfl _ _ _ rfl (by decide)]
  obtain ⟨a, b⟩ := p
  simp -implicitDefEqProofs [pgV]
theorem eqPut_call (p : Pg) (K : Out → Prop) : Call prog 91 ⟨[pgV p, pgV p], [], []⟩ K = K (.b true, [], []) := by
  refine Call_det ?_ K
  rw [Call_sp (p := prog) (f := 91) rfl _ _ _ rfl (by decide)]
  obtain ⟨a, b⟩ := p
  simp -implicitDefEqProofs [pgV]
theorem eqSuper_call (s : Su) (K : Out → Prop) : Call prog 25 ⟨[.agg (suC s), .agg (suC s)], [], []⟩ K = K (.b true, [], []) := by
  refine Call_det ?_ K
  rw [Call_sp (p := prog) (f := 25) rfl _ _ _ rfl (by decide)]
  obtain ⟨a, b, c, d⟩ := s
  simp -implicitDefEqProofs [suC]
theorem eqStringS_call (q q' : Bool) (l : List Bs) (hl : l.length ≤ lim) (K : Out → Prop) : Call prog 56 ⟨[.view q 1 (l.map V.s), .view q' 1 (l.map V.s)], [], []⟩ K = K (.b true, [], []) := by
  refine Call_det ?_ K
  rw [Call_sp (p := prog) (f := 56) rfl _ _ _ rfl (by decide)]
  unfold lim at hl
  simp -implicitDefEqProofs
  refine WL_for (fun i => ⟨sp 26 [(0, .view q 1 (l.map V.s)), (1, .view q' 1 (l.map V.s)), (5, .i .i64 i)], [], []⟩) l.length (fun _ => True) _ (by simp -implicitDefEqProofs) trivial ?_
  intro i hi _
  by_cases hlt : i < l.length
  · have hw := wrap_i64 (n := (i : Int) + 1) (by omega) (by omega)
    simp -implicitDefEqProofs [hlt, hw, Next]
  · simp -implicitDefEqProofs [hlt]
theorem eqInt64S_call (q q' : Bool) (l : List Int) (hl : l.length ≤ lim) (K : Out → Prop) : Call prog 7 ⟨[.view q 1 (l.map (V.i .i64)), .view q' 1 (l.map (V.i .i64))], [], []⟩ K = K (.b true, [], []) := by
  refine Call_det ?_ K
  rw [Call_sp (p := prog) (f := 7) rfl _ _ _ rfl (by decide)]
  unfold lim at hl
  simp -implicitDefEqProofs
  refine WL_for (fun i => ⟨sp 26 [(0, .view q 1 (l.map (V.i .i64))), (1, .view q' 1 (l.map (V.i .i64))), (5, .i .i64 i)], [], []⟩) l.length (fun _ => True) _ (by simp -implicitDefEqProofs) trivial ?_
  intro i hi _
  by_cases hlt : i < l.length
  · have hw := wrap_i64 (n := (i : Int) + 1) (by omega) (by omega)
    simp -implicitDefEqProofs [hlt, hw, Next]
  · simp -implicitDefEqProofs [hlt]
theorem eqPutS_call (q q' : Bool) (l : List Pg) (hl : l.length ≤ lim) (K : Out → Prop) : Call prog 57 ⟨[.view q 2 (l.map pgV), .view q' 2 (l.map pgV)], [], []⟩ K = K (.b true, [], []) := by
  refine Call_det ?_ K
  rw [Call_sp (p := prog) (f := 57) rfl _ _ _ rfl (by decide)]
  unfold lim at hl
  simp -implicitDefEqProofs
  refine WL_for (fun i => ⟨sp 27 [(0, .view q 2 (l.map pgV)), (1, .view q' 2 (l.map pgV)), (5, .i .i64 i)], [], []⟩) l.length (fun _ => True) _ (by simp -implicitDefEqProofs) trivial ?_
  intro i hi _
  by_cases hlt : i < l.length
  · have hw := wrap_i64 (n := (i : Int) + 1) (by omega) (by omega)
    have e1 := fun K => eqPut_call l[i] K
    simp only [pgV] at e1
    simp -implicitDefEqProofs [hlt, hw, e1, pgV, Next]
  · simp -implicitDefEqProofs [hlt]
theorem eqPageS_call (q q' : Bool) (l : List Pg) (hl : l.length ≤ lim) (K : Out → Prop) : Call prog 26 ⟨[.view q 2 (l.map pgV), .view q' 2 (l.map pgV)], [], []⟩ K = K (.b true, [], []) := by
  refine Call_det ?_ K
  rw [Call_sp (p := prog) (f := 26) rfl _ _ _ rfl (by decide)]
  unfold lim at hl
  simp -implicitDefEqProofs
  refine WL_for (fun i => ⟨sp 27 [(0, .view q 2 (l.map pgV)), (1, .view q' 2 (l.map pgV)), (5, .i .i64 i)], [], []⟩) l.length (fun _ => True) _ (by simp -implicitDefEqProofs) trivial ?_
  intro i hi _
  by_cases hlt : i < l.length
  · have hw := wrap_i64 (n := (i : Int) + 1) (by omega) (by omega)
    have e1 := fun K => eqPage_call l[i] K
    simp only [pgV] at e1
    simp -implicitDefEqProofs [hlt, hw, e1, pgV, Next]
  · simp -implicitDefEqProofs [hlt]
theorem eqDisk_call (q q' : Bool) (d : Dk) (h1 : d.blocks.length ≤ lim) (h2 : d.pend.length ≤ lim) (K : Out → Prop) :
    Call prog 24 ⟨[.agg (dkC q d), .agg (dkC q' d)], [], []⟩ K = K (.b true, [], []) := by
  refine Call_det ?_ K
  rw [Call_sp (p := prog) (f := 24) rfl _ _ _ rfl (by decide)]
  obtain ⟨bl, pe, fu, off⟩ := d
  have e1 := fun K => eqStringS_call q q' bl h1 K
  have e2 := fun K => eqPutS_call q q' pe h2 K
  cases off <;> simp -implicitDefEqProofs [dkC, e1, e2]
theorem eqPager_call (q q' : Bool) (p : Pr) (h : p.sm) (K : Out → Prop) :
    Call prog 4 ⟨[.agg (prC q p), .agg (prC q' p)], [], []⟩ K = K (.b true, [], []) := by
  refine Call_det ?_ K
  rw [Call_sp (p := prog) (f := 4) rfl _ _ _ rfl (by decide)]
  have e1 := fun K => eqDisk_call q q' p.disk h.sb h.sp K
  have e2 := fun K => eqSuper_call p.su K
  have e3 := fun K => eqPageS_call q q' p.logged h.sl K
  have e4 := fun K => eqPageS_call q q' p.dirty h.sd K
  obtain ⟨⟨bl, pe, fu, off⟩, ⟨a, b, c, d⟩, sq, at_, lo, di⟩ := p
  simp only [dkC, suC] at e1 e2 e3 e4
  simp -implicitDefEqProofs [prC, e1, e2, e3, e4]
end Go.VS
end
section
namespace Go.VS
set_option linter.unusedSimpArgs false
set_option maxRecDepth 4000
attribute [-simp] isLeaf

@[simp] theorem canonP_sp0 {n : Nat} {lv : List Nat} (h : srt 0 n lv = true) (pc : Nat) (l : List (Nat × V)) (m : List (List V)) (nb : Nat) :
    St.canonP pc ⟨sp n l, m, []⟩ lv nb = canE nb n (kp lv l) (m.take nb) [] (List.range pc) := by
  rw [canonP_sp h, rids_nil, ridsE_nil]
def marks (k : Int) : Nat → List Int
  | 0 => []
  | n + 1 => marks k n ++ [k + n]
@[simp] theorem marks_length (k : Int) : ∀ n, (marks k n).length = n
  | 0 => rfl
  | n + 1 => by rw [marks, List.length_append, marks_length k n]; rfl
theorem marks_get (k : Int) : ∀ (n i : Nat) (h : i < n), (marks k n)[i]'(by simpa using h) = k + i
  | n + 1, i, h => by
    simp only [marks]
    by_cases e : i < n
    · rw [List.getElem_append_left (by simpa using e)]; exact marks_get k n i e
    · have : i = n := by omega
      subst this
      rw [List.getElem_append_right (by simp)]; simp
/-- What the marks have come to. -/
def markL (k : Int) (l : List Int) (i : Nat) : List V := (marks k i ++ l.drop i).map (V.i .i64)
theorem markL_get {k : Int} {l : List Int} {i : Nat} (h : i < l.length) : (markL k l i)[i]?.getD .no = V.i .i64 l[i] := by
  unfold markL
  rw [List.getElem?_map, List.getElem?_append_right (by simp)]; simp [h]
theorem markL_set {k : Int} {l : List Int} {i : Nat} (h : i < l.length) : (markL k l i).set i (V.i .i64 (k + i)) = markL k l (i + 1) := by
  unfold markL
  rw [← List.map_set, List.set_append_right _ _ (by simp), marks_length, Nat.sub_self, List.drop_eq_getElem_cons h, List.set_cons_zero, marks, List.append_assoc]; rfl
theorem markInt64S_call (l : List Int) (k : Int) (hl : l.length ≤ lim) (k0 : 0 ≤ k) (k1 : k ≤ 16777216) (K : Out → Prop) :
    Call prog 1009 ⟨[.sl 0 0 l.length false, .i .i64 k], [], [rowI l]⟩ K = K (.i .i64 (k + l.length), [], [rowI (marks k l.length)]) := by
  refine Call_det ?_ K
  rw [Call_pin_sp (p := prog) (f := 1009) rfl _ _ _ rfl (by decide) rfl]
  unfold lim at hl
  simp -implicitDefEqProofs [rowI]
  refine WL_for (fun i => ⟨sp 19 [(0, .sl 0 0 l.length false), (1, .i .i64 (k + i)), (5, .i .i64 i)], [], [.row 1 false (markL k l i)]⟩) l.length (fun _ => True) _ (by simp -implicitDefEqProofs [markL, marks]) trivial ?_
  intro i hi _
  by_cases hlt : i < l.length
  · have hw := wrap_i64 (n := (i : Int) + 1) (by omega) (by omega)
    have hw2 := wrap_i64 (n := k + (i : Int) + 1) (by omega) (by omega)
    have e : k + ((i : Int) + 1) = k + i + 1 := by omega
    simp -implicitDefEqProofs [hlt, hw, hw2, markL_get hlt, markL_set hlt, e, Next]
  · have : i = l.length := by omega
    subst this
    have e : markL k l l.length = (marks k l.length).map (V.i .i64) := by unfold markL; simp
    rw [e]
    simp -implicitDefEqProofs [rowI]
theorem markInt64S_nil (k : Int) (K : Out → Prop) : Call prog 1009 ⟨[.nil, .i .i64 k], [], []⟩ K = K (.i .i64 k, [], []) := by
  refine Call_det ?_ K
  rw [Call_pin_sp (p := prog) (f := 1009) rfl _ _ _ rfl (by decide) rfl]
  simp -implicitDefEqProofs
  refine WL_for (fun i => ⟨sp 19 [(0, .nil), (1, .i .i64 k), (5, .i .i64 0)], [], [.gone]⟩) 0 (fun _ => True) _ (by simp -implicitDefEqProofs) trivial ?_
  intro i hi _
  simp -implicitDefEqProofs
theorem heldInt64S_call (q : Bool) (n : Nat) (k : Int) (hl : n ≤ lim) (k0 : 0 ≤ k) (k1 : k ≤ 16777216) (K : Out → Prop) :
    Call prog 10 ⟨[.view q 1 ((marks k n).map (V.i .i64)), .i .i64 k], [], []⟩ K = K (.i .i64 (k + n), [], []) := by
  refine Call_det ?_ K
  rw [Call_sp (p := prog) (f := 10) rfl _ _ _ rfl (by decide)]
  unfold lim at hl
  simp -implicitDefEqProofs
  refine WL_for (fun i => ⟨sp 21 [(0, .view q 1 ((marks k n).map (V.i .i64))), (1, .i .i64 (k + i)), (5, .i .i64 i)], [], []⟩) n (fun _ => True) _ (by simp -implicitDefEqProofs) trivial ?_
  intro i hi _
  by_cases hlt : i < n
  · have hw := wrap_i64 (n := (i : Int) + 1) (by omega) (by omega)
    have hw2 := wrap_i64 (n := k + (i : Int) + 1) (by omega) (by omega)
    have e : k + ((i : Int) + 1) = k + i + 1 := by omega
    have hg := marks_get k n i hlt
    simp -implicitDefEqProofs [hlt, hw, hw2, hg, e, Next]
  · have : i = n := by omega
    subst this
    simp -implicitDefEqProofs
end Go.VS
end
section
namespace Go.VS
set_option linter.unusedSimpArgs false
set_option maxRecDepth 4000
attribute [-simp] isLeaf

def dig (k : Nat) : UInt8 := UInt8.ofNat (48 + k % 10)
def mtext : Nat → Nat → Bs → Bs
  | 0, _, o => o
  | n + 1, k, o => if k = 0 then o else mtext n (k / 10) (dig k :: o)
theorem markText_call (k : Nat) (k0 : 0 < k) (k1 : k ≤ 16777216) (K : Out → Prop) : Call prog 64 ⟨[.i .i64 k], [], []⟩ K = K (.s (109 :: mtext k k []), [], []) := by
  refine Call_det ?_ K
  rw [Call_sp (p := prog) (f := 64) rfl _ _ _ rfl (by decide)]
  have c0 : ¬ k = 0 := by omega
  simp -implicitDefEqProofs [c0]
  refine WL_st (α := Nat × Nat × Bs) (fun x => ⟨sp 20 [(0, .i .i64 x.2.1), (3, .s x.2.2)], [], []⟩) (fun x => x.1) (fun x => mtext k k [] = mtext x.1 x.2.1 x.2.2 ∧ x.2.1 ≤ x.1 ∧ x.2.1 ≤ 16777216 ∧ x.2.2.length + x.2.1 ≤ 16777216) (k, k, []) _ (by simp -implicitDefEqProofs) ⟨rfl, by simp, by simpa using k1, by simpa using k1⟩ ?_
  rintro ⟨n, j, o⟩ ⟨hP, h1, h2, h3⟩
  simp only at hP h1 h2 h3
  by_cases hj : j = 0
  · subst hj
    have : mtext n 0 o = o := by cases n <;> simp [mtext]
    rw [this] at hP
    rw [hP]
    have c1 : 1 + o.length ≤ lim := by unfold lim; omega
    simp -implicitDefEqProofs [c1]
  · cases n with
    | zero => omega
    | succ n =>
      rw [mtext, if_neg hj] at hP
      have hj0 : 0 < j := by omega
      have e1 : (j : Int).tmod 10 = ((j % 10 : Nat) : Int) := rfl
      have e2 : (j : Int).tdiv 10 = ((j / 10 : Nat) : Int) := rfl
      have w0 : IntKind.i64.wrap (48 + (j : Int).tmod 10) = 48 + ((j % 10 : Nat) : Int) := by rw [e1]; exact wrap_i64 (by omega) (by omega)
      have hd : (dig j).toNat = 48 + j % 10 := by unfold dig; simp; omega
      have hu : IntKind.u8.wrap (48 + ((j % 10 : Nat) : Int)) = ((dig j).toNat : Int) := by
        rw [hd, wrap_u8 (by omega) (by omega)]; push_cast; rfl
      have hu2 : IntKind.u8.wrap (48 + (j : Int) % 10) = ((dig j).toNat : Int) := by rw [← hu]; push_cast; rfl
      have w3 : IntKind.i64.wrap ((j : Int).tdiv 10) = ((j / 10 : Nat) : Int) := by rw [e2]; exact wrap_i64 (by omega) (by omega)
      have w4 : IntKind.i64.wrap ((j : Int) / 10) = (j : Int) / 10 := wrap_i64 (by omega) (by omega)
      have cv : ∀ t m, cvsV ⟨t, m, [.row 1 false [.i .u8 ((dig j).toNat : Int)]]⟩ (.sl 0 0 1 false) = some (.s [dig j]) := by
        intro t m; simp [cvsV, vbytes]
      have c1 : 1 + o.length ≤ lim := by unfold lim; omega
      simp -implicitDefEqProofs [hj0, w0, hu, hu2, cv, c1, w3, w4]
      refine NextS.mk (n, j / 10, dig j :: o) ⟨hP, by simp only; omega, by simp only; omega, by simp; omega⟩ (by simp) (by simp)
/-- What a slice of texts is after the marks. -/
def mtx (k : Nat) : Bs := 109 :: mtext k k []
theorem markStringS_call (xs : List V) (k : Nat) (k0 : 0 < k) (k1 : k + xs.length ≤ 16777216) (hx : ∀ x, x ∈ xs → ∃ l, x = .s l) : ∃ o : Out, (∃ j : Nat, o = (.i .i64 j, [], []) ∧ j = k + xs.length) ∧ ∀ K : Out → Prop,
    Call prog 62 ⟨[.sl 0 0 xs.length false, .i .i64 k], [], [.row 1 false xs]⟩ K = K o := by
  refine ⟨_, ⟨_, rfl, rfl⟩, fun K => ?_⟩
  refine Call_det ?_ K
  rw [Call_sp (p := prog) (f := 62) rfl _ _ _ rfl (by decide)]
  simp -implicitDefEqProofs
  refine WL_st (α := Nat × List V) (fun x => ⟨sp 20 [(0, .sl 0 0 xs.length false), (1, .i .i64 (k + x.1)), (5, .i .i64 x.1)], [], [.row 1 false x.2]⟩) (fun x => xs.length - x.1) (fun x => x.1 ≤ xs.length ∧ x.2.length = xs.length ∧ ∀ y, y ∈ x.2 → ∃ l, y = .s l) (0, xs) _ (by simp -implicitDefEqProofs) ⟨by simp, rfl, hx⟩ ?_
  rintro ⟨i, ys⟩ ⟨h1, h2, h3⟩
  simp only at h1 h2 h3
  by_cases hlt : i < xs.length
  · have hw := wrap_i64 (n := (i : Int) + 1) (by omega) (by omega)
    have hw2 := wrap_i64 (n := (k : Int) + i + 1) (by omega) (by omega)
    have hlt2 : i < ys.length := by omega
    obtain ⟨l, hl⟩ := h3 ys[i] (List.getElem_mem hlt2)
    have hg : ys[i]?.getD .no = .s l := by rw [List.getElem?_eq_getElem hlt2, hl]; rfl
    have ea : (k : Int) + ((i : Int) + 1) = k + i + 1 := by omega
    have e1 := fun K => markText_call (k + i) (by omega) (by omega) K
    simp only [Int.natCast_add] at e1
    simp -implicitDefEqProofs [hlt, hlt2, h2, hw, hw2, hg, hl, e1]
    refine NextS.mk (i + 1, ys.set i (.s (mtx (k + i)))) ⟨by simp only; omega, by simp; omega, ?_⟩ (by simp only; omega) (by simp [mtx, ea])
    intro y hy
    rcases List.mem_or_eq_of_mem_set hy with hy | hy
    · exact h3 y hy
    · exact ⟨_, hy⟩
  · have : i = xs.length := by omega
    subst this
    simp -implicitDefEqProofs
theorem markPutS_call (xs : List V) (k : Nat) (k0 : 0 < k) (k1 : k + 2 * xs.length ≤ 16777216) (hx : ∀ x, x ∈ xs → ∃ b l, x = .agg [.i .i64 b, .s l]) : ∃ o : Out, (∃ j : Nat, o = (.i .i64 j, [], []) ∧ j = k + 2 * xs.length) ∧ ∀ K : Out → Prop,
    Call prog 63 ⟨[.sl 0 0 xs.length false, .i .i64 k], [], [.row 2 false xs]⟩ K = K o := by
  refine ⟨_, ⟨_, rfl, rfl⟩, fun K => ?_⟩
  refine Call_det ?_ K
  rw [Call_sp (p := prog) (f := 63) rfl _ _ _ rfl (by decide)]
  simp -implicitDefEqProofs
  refine WL_st (α := Nat × List V) (fun x => ⟨sp 28 [(0, .sl 0 0 xs.length false), (1, .i .i64 (k + 2 * x.1)), (5, .i .i64 x.1)], [], [.row 2 false x.2]⟩) (fun x => xs.length - x.1) (fun x => x.1 ≤ xs.length ∧ x.2.length = xs.length ∧ ∀ y, y ∈ x.2 → ∃ b l, y = .agg [.i .i64 b, .s l]) (0, xs) _ (by simp -implicitDefEqProofs) ⟨by simp, rfl, hx⟩ ?_
  rintro ⟨i, ys⟩ ⟨h1, h2, h3⟩
  simp only at h1 h2 h3
  by_cases hlt : i < xs.length
  · have hw := wrap_i64 (n := (i : Int) + 1) (by omega) (by omega)
    have hw2 := wrap_i64 (n := (k : Int) + 2 * i + 1) (by omega) (by omega)
    have hw3 := wrap_i64 (n := (k : Int) + 2 * i + 1 + 1) (by omega) (by omega)
    have hlt2 : i < ys.length := by omega
    obtain ⟨b, l, hl⟩ := h3 ys[i] (List.getElem_mem hlt2)
    have hg : ys[i]?.getD .no = .agg [.i .i64 b, .s l] := by rw [List.getElem?_eq_getElem hlt2, hl]; rfl
    have ea : (k : Int) + 2 * ((i : Int) + 1) = k + 2 * i + 1 + 1 := by omega
    have e1 := fun K => markText_call (k + 2 * i + 1) (by omega) (by omega) K
    simp only [Int.natCast_add, Int.natCast_mul, Int.cast_ofNat_Int, Int.natCast_one] at e1
    simp -implicitDefEqProofs [hlt, hlt2, h2, hw, hw2, hw3, hg, hl, e1]
    refine NextS.mk (i + 1, ys.set i (.agg [.i .i64 (k + 2 * i), .s (mtx (k + 2 * i + 1))])) ⟨by simp only; omega, by simp; omega, ?_⟩ (by simp only; omega) (by simp [mtx, ea])
    intro y hy
    rcases List.mem_or_eq_of_mem_set hy with hy | hy
    · exact h3 y hy
    · exact ⟨_, _, hy⟩
  · have : i = xs.length := by omega
    subst this
    simp -implicitDefEqProofs
theorem markPageS_call (xs : List V) (k : Nat) (k0 : 0 < k) (k1 : k + 2 * xs.length ≤ 16777216) (hx : ∀ x, x ∈ xs → ∃ b l, x = .agg [.i .i64 b, .s l]) : ∃ o : Out, (∃ j : Nat, o = (.i .i64 j, [], []) ∧ j = k + 2 * xs.length) ∧ ∀ K : Out → Prop,
    Call prog 30 ⟨[.sl 0 0 xs.length false, .i .i64 k], [], [.row 2 false xs]⟩ K = K o := by
  refine ⟨_, ⟨_, rfl, rfl⟩, fun K => ?_⟩
  refine Call_det ?_ K
  rw [Call_sp (p := prog) (f := 30) rfl _ _ _ rfl (by decide)]
  simp -implicitDefEqProofs
  refine WL_st (α := Nat × List V) (fun x => ⟨sp 28 [(0, .sl 0 0 xs.length false), (1, .i .i64 (k + 2 * x.1)), (5, .i .i64 x.1)], [], [.row 2 false x.2]⟩) (fun x => xs.length - x.1) (fun x => x.1 ≤ xs.length ∧ x.2.length = xs.length ∧ ∀ y, y ∈ x.2 → ∃ b l, y = .agg [.i .i64 b, .s l]) (0, xs) _ (by simp -implicitDefEqProofs) ⟨by simp, rfl, hx⟩ ?_
  rintro ⟨i, ys⟩ ⟨h1, h2, h3⟩
  simp only at h1 h2 h3
  by_cases hlt : i < xs.length
  · have hw := wrap_i64 (n := (i : Int) + 1) (by omega) (by omega)
    have hw2 := wrap_i64 (n := (k : Int) + 2 * i + 1) (by omega) (by omega)
    have hw3 := wrap_i64 (n := (k : Int) + 2 * i + 1 + 1) (by omega) (by omega)
    have hlt2 : i < ys.length := by omega
    obtain ⟨b, l, hl⟩ := h3 ys[i] (List.getElem_mem hlt2)
    have hg : ys[i]?.getD .no = .agg [.i .i64 b, .s l] := by rw [List.getElem?_eq_getElem hlt2, hl]; rfl
    have ea : (k : Int) + 2 * ((i : Int) + 1) = k + 2 * i + 1 + 1 := by omega
    have e1 := fun K => markText_call (k + 2 * i + 1) (by omega) (by omega) K
    simp only [Int.natCast_add, Int.natCast_mul, Int.cast_ofNat_Int, Int.natCast_one] at e1
    simp -implicitDefEqProofs [hlt, hlt2, h2, hw, hw2, hw3, hg, hl, e1]
    refine NextS.mk (i + 1, ys.set i (.agg [.i .i64 (k + 2 * i), .s (mtx (k + 2 * i + 1))])) ⟨by simp only; omega, by simp; omega, ?_⟩ (by simp only; omega) (by simp [mtx, ea])
    intro y hy
    rcases List.mem_or_eq_of_mem_set hy with hy | hy
    · exact h3 y hy
    · exact ⟨_, _, hy⟩
  · have : i = xs.length := by omega
    subst this
    simp -implicitDefEqProofs
end Go.VS
end
section
namespace Go.VS
set_option linter.unusedSimpArgs false
set_option maxRecDepth 4000
attribute [-simp] isLeaf

theorem markDisk_call (d : Dk) (k : Nat) (k0 : 0 < k) (k1 : k + 2 * (d.blocks.length + d.pend.length) ≤ 16777216) : ∃ j : Nat, (k ≤ j ∧ j ≤ k + 2 * (d.blocks.length + d.pend.length)) ∧ ∀ K : Out → Prop,
    Call prog 29 ⟨[.agg (dkW d), .i .i64 k], [], dkRows d⟩ K = K (.i .i64 j, [], []) := by
  obtain ⟨o1, ⟨j1, rfl, h1⟩, e1⟩ := markStringS_call (d.blocks.map .s) k k0 (by simp; omega) (fun x hx => by obtain ⟨l, _, rfl⟩ := List.mem_map.1 hx; exact ⟨l, rfl⟩)
  simp only [List.length_map, Tag_eq] at h1 e1
  obtain ⟨o2, ⟨j2, rfl, h2⟩, e2⟩ := markPutS_call (d.pend.map pgV) j1 (by omega) (by simp; omega) (fun x hx => by obtain ⟨l, _, rfl⟩ := List.mem_map.1 hx; exact ⟨_, _, rfl⟩)
  simp only [List.length_map, Tag_eq] at h2 e2
  refine ⟨j2, by omega, fun K => ?_⟩
  refine Call_det ?_ K
  rw [Call_sp (p := prog) (f := 29) rfl _ _ _ rfl (by decide)]
  obtain ⟨bl, pe, fu, off⟩ := d
  simp only [Tag_eq] at e1 e2
  simp -implicitDefEqProofs [dkW, dkRows, e1, e2]
theorem markPager_call (p : Pr) (k : Nat) (k0 : 0 < k) (k1 : k + 2 * (p.disk.blocks.length + p.disk.pend.length + p.logged.length + p.dirty.length) ≤ 16777216) : ∃ j : Nat, k ≤ j ∧ ∀ K : Out → Prop,
    Call prog 8 ⟨[.agg (prW p), .i .i64 k], [], prRows p⟩ K = K (.i .i64 j, [], []) := by
  obtain ⟨j1, ⟨h1, h1'⟩, e1⟩ := markDisk_call p.disk k k0 (by omega)
  obtain ⟨o2, ⟨j2, rfl, h2⟩, e2⟩ := markPageS_call (p.logged.map pgV) j1 (by omega) (by simp; omega) (fun x hx => by obtain ⟨l, _, rfl⟩ := List.mem_map.1 hx; exact ⟨_, _, rfl⟩)
  simp only [List.length_map, Tag_eq] at h2 e2
  obtain ⟨o3, ⟨j3, rfl, h3⟩, e3⟩ := markPageS_call (p.dirty.map pgV) j2 (by omega) (by simp; omega) (fun x hx => by obtain ⟨l, _, rfl⟩ := List.mem_map.1 hx; exact ⟨_, _, rfl⟩)
  simp only [List.length_map, Tag_eq] at h3 e3
  refine ⟨j3, by omega, fun K => ?_⟩
  refine Call_det ?_ K
  rw [Call_sp (p := prog) (f := 8) rfl _ _ _ rfl (by decide)]
  obtain ⟨⟨bl, pe, fu, off⟩, ⟨a, b, c, d⟩, sq, at_, lo, di⟩ := p
  simp only [dkW, dkRows, Tag_eq] at e1 e2 e3
  simp -implicitDefEqProofs [prW, prRows, e1, e2, e3]
end Go.VS
end
section
namespace Go.VS
set_option linter.unusedSimpArgs false
set_option maxRecDepth 8000
attribute [-simp] isLeaf

theorem Pr.sm_of {p : Pr} (h : (p.tot : Int) ≤ 1048576) : p.sm ∧ p.disk.blocks.length + p.disk.pend.length + p.logged.length + p.dirty.length ≤ 1048576 := by
  unfold Pr.tot Dk.tot totS totP at h
  constructor
  · constructor <;> (unfold lim; omega)
  · omega
set_option maxHeartbeats 4000000 in
theorem walkLaw (n : N4) (p : Pr) (h : p.big) (K : Out → Prop) : Call prog 179 ⟨[.agg (prR n p)], [], []⟩ K = K (.b true, [], []) := by
  refine Call_det ?_ K
  rw [Call_sp (p := prog) (f := 179) rfl _ _ _ rfl (by decide)]
  have e0 := fun K => szPager_call n p h 1048576 (by decide) (by decide) K
  by_cases c0 : (p.tot : Int) ≤ 1048576
  · obtain ⟨sm, hl⟩ := Pr.sm_of c0
    have m0 : minus 1048576 p.tot = 1048576 - p.tot := if_pos c0
    rw [m0] at e0
    have c1 : ¬ (1048576 : Int) - p.tot < 0 := by omega
    have e1 := fun K => toPager_call n p sm K
    have e2 := fun K => sWalkStore_call false p sm K
    have e3 := fun K => WalkStore_call false p sm K
    have e4 := fun K => eqPager_call false false p sm K
    obtain ⟨j, hj, e5⟩ := markPager_call p 1 (by omega) (by omega)
    have c2 : ¬ (j : Int) < 0 := by omega
    cases ok : p.ok with
    | false =>
      rw [ok] at e2 e3
      have e6 : ∀ K, Call prog 7 ⟨[.view true 1 [], .view true 1 []], [], []⟩ K = K (.b true, [], []) := fun K => eqInt64S_call true true [] (by unfold lim; simp) K
      have e7 := fun K => markInt64S_nil 1 K
      have e8 : ∀ K, Call prog 10 ⟨[.view true 1 [], .i .i64 1], [], []⟩ K = K (.i .i64 1, [], []) := fun K => heldInt64S_call true 0 1 (by unfold lim; omega) (by omega) (by omega) K
      simp only [prR, prW, prRows, prC, Tag_eq, Bool.false_eq_true, if_false, Int.natCast_one] at e0 e1 e2 e3 e4 e5
      simp -implicitDefEqProofs [prR, e0, e1, e2, e3, e4, e5, e6, e7, e8, c1, c2]
    | true =>
      rw [ok] at e2 e3
      unfold walkOut at e3
      have wl := walkF_len (p := p)
      by_cases c3 : p.root = 0
      · have hw : walkF p = [] := by unfold walkF; rw [if_pos c3]
        rw [hw] at e2
        have e6 : ∀ K, Call prog 7 ⟨[.view true 1 [], .view false 1 []], [], []⟩ K = K (.b true, [], []) := fun K => eqInt64S_call true false [] (by unfold lim; simp) K
        have e7 := fun K => markInt64S_nil 1 K
        have e8 : ∀ K, Call prog 10 ⟨[.view true 1 [], .i .i64 1], [], []⟩ K = K (.i .i64 1, [], []) := fun K => heldInt64S_call true 0 1 (by unfold lim; omega) (by omega) (by omega) K
        simp only [prR, prW, prRows, prC, Tag_eq, if_true, if_pos c3, Int.natCast_one, rowI, List.map_nil, List.length_nil] at e0 e1 e2 e3 e4 e5
        simp -implicitDefEqProofs [prR, e0, e1, e2, e3, e4, e5, e6, e7, e8, c1, c2]
      · have e6 := fun K => eqInt64S_call false false (walkF p) (by unfold lim; omega) K
        have e7 := fun K => markInt64S_call (walkF p) 1 (by unfold lim; omega) (by omega) (by omega) K
        have e8 := fun K => heldInt64S_call false (walkF p).length 1 (by unfold lim; omega) (by omega) (by omega) K
        have hT : List.take (walkF p).length (List.map (V.i .i64) (marks 1 (walkF p).length)) = List.map (V.i .i64) (marks 1 (walkF p).length) := List.take_of_length_le (by simp)
        have c4 : ¬ (1 : Int) + (walkF p).length < 0 := by omega
        simp only [prR, prW, prRows, prC, Tag_eq, if_true, if_neg c3, Int.natCast_one, rowI] at e0 e1 e2 e3 e4 e5 e7
        simp -implicitDefEqProofs [prR, e0, e1, e2, e3, e4, e5, e6, e7, e8, c1, c2, c4, hT]
  · have m0 : minus 1048576 p.tot = -1 := if_neg c0
    rw [m0] at e0
    simp only [prR] at e0
    simp -implicitDefEqProofs [prR, e0]
end Go.VS
end
