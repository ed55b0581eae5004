/-
  What the law of WriteHeader answers: true, for all arguments.
-/
import Derived.Test.YtdnblconoegeaaaGreatDoorB3
import Derived.Test.YtdnblconoegeaaaGreatDoorB4
set_option linter.all false
section
namespace Go.VS
set_option linter.unusedSimpArgs false

def big : Nat := 9223372036854775808
def sumL (l : List Bs) : Nat := (l.map List.length).sum
def totS (l : List Bs) : Nat := l.length + sumL l
theorem sumL_succ {l : List Bs} {i : Nat} (h : i < l.length) : sumL (l.take (i + 1)) = sumL (l.take i) + l[i].length := by
  unfold sumL
  rw [← List.take_append_getElem h, List.map_append, List.sum_append]; simp
theorem sumL_take {l : List Bs} (i : Nat) : sumL (l.take i) ≤ sumL l := by
  unfold sumL
  conv => rhs; rw [← List.take_append_drop i l, List.map_append, List.sum_append]
  omega
/-- What is left of k. -/
def minus (k : Int) (n : Nat) : Int := if (n : Int) ≤ k then k - n else -1
theorem szStringS_call (q : Bool) (l : List Bs) (k : Int) (hl : l.length < big) (hs : ∀ s, s ∈ l → s.length < big) (k0 : 0 ≤ k) (k1 : k ≤ 1048576) (K : Out → Prop) :
    Call prog 33 ⟨[.view q 1 (l.map .s), .i .i64 k], [], []⟩ K = K (.i .i64 (minus k (totS l)), [], []) := by
  refine Call_det ?_ K
  rw [Call_sp (p := prog) (f := 33) rfl _ _ _ rfl (by decide)]
  unfold big at hl hs
  have w0 := wrap_i64 (n := k - l.length) (by omega) (by omega)
  by_cases c0 : k - l.length < 0
  · have : minus k (totS l) = -1 := by unfold minus totS; rw [if_neg (by push_cast; omega)]
    rw [this]
    simp -implicitDefEqProofs [w0, c0]
  · simp -implicitDefEqProofs [w0, c0]
    refine WL_for (fun i => ⟨sp 28 [(0, .view q 1 (l.map .s)), (1, .i .i64 (k - l.length - sumL (l.take i))), (5, .i .i64 i)], [], []⟩) l.length (fun i => (0 : Int) ≤ k - l.length - sumL (l.take i)) _ (by simp -implicitDefEqProofs [sumL]) (by simp [sumL]; omega) ?_
    intro i hi hP
    by_cases hlt : i < l.length
    · have hw := wrap_i64 (n := (i : Int) + 1) (by omega) (by omega)
      have hb := hs _ (List.getElem_mem hlt)
      have hx := sumL_succ hlt
      have ht := sumL_take (l := l) (i + 1)
      have w1 := wrap_i64 (n := k - l.length - sumL (l.take i) - l[i].length) (by omega) (by omega)
      have hx2 : k - l.length - (sumL (l.take (i + 1)) : Int) = k - l.length - sumL (l.take i) - l[i].length := by omega
      by_cases c1 : k - l.length - sumL (l.take i) - l[i].length < 0
      · have : minus k (totS l) = -1 := by unfold minus totS; rw [if_neg (by push_cast; omega)]
        rw [this]
        simp -implicitDefEqProofs [hlt, hw, w1, c1]
      · have c2 : (l[i].length : Int) ≤ k - l.length - sumL (l.take i) := by omega
        simp -implicitDefEqProofs [hlt, hw, w1, c1, c2, hx2, Next]
    · have : i = l.length := by omega
      subst this
      rw [List.take_length] at hP ⊢
      have : minus k (totS l) = k - l.length - sumL l := by unfold minus totS; rw [if_pos (by push_cast; omega)]; push_cast; omega
      rw [this]
      simp -implicitDefEqProofs
def sumP (l : List Pg) : Nat := (l.map fun p => p.data.length).sum
def totP (l : List Pg) : Nat := l.length + sumP l
theorem sumP_succ {l : List Pg} {i : Nat} (h : i < l.length) : sumP (l.take (i + 1)) = sumP (l.take i) + l[i].data.length := by
  unfold sumP
  rw [← List.take_append_getElem h, List.map_append, List.sum_append]; simp
theorem sumP_take {l : List Pg} (i : Nat) : sumP (l.take i) ≤ sumP l := by
  unfold sumP
  conv => rhs; rw [← List.take_append_drop i l, List.map_append, List.sum_append]
  omega
theorem szPut_call (p : Pg) (k : Int) (hs : p.data.length < big) (k0 : 0 ≤ k) (k1 : k ≤ 1048576) (K : Out → Prop) :
    Call prog 67 ⟨[pgV p, .i .i64 k], [], []⟩ K = K (.i .i64 (minus k p.data.length), [], []) := by
  refine Call_det ?_ K
  rw [Call_sp (p := prog) (f := 67) rfl _ _ _ rfl (by decide)]
  unfold big at hs
  have w0 := wrap_i64 (n := k - p.data.length) (by omega) (by omega)
  unfold minus
  by_cases c0 : (p.data.length : Int) ≤ k
  · have c1 : ¬ k - p.data.length < 0 := by omega
    simp -implicitDefEqProofs [pgV, w0, c0, c1]
  · have c1 : k - p.data.length < 0 := by omega
    simp -implicitDefEqProofs [pgV, w0, c0, c1]
theorem szPutS_call (q : Bool) (l : List Pg) (k : Int) (hl : l.length < big) (hs : ∀ s, s ∈ l → s.data.length < big) (k0 : 0 ≤ k) (k1 : k ≤ 1048576) (K : Out → Prop) :
    Call prog 34 ⟨[.view q 2 (l.map pgV), .i .i64 k], [], []⟩ K = K (.i .i64 (minus k (totP l)), [], []) := by
  refine Call_det ?_ K
  rw [Call_sp (p := prog) (f := 34) rfl _ _ _ rfl (by decide)]
  have hl' := hl
  have hs' := hs
  unfold big at hl hs
  have w0 := wrap_i64 (n := k - l.length) (by omega) (by omega)
  by_cases c0 : k - l.length < 0
  · have : minus k (totP l) = -1 := by unfold minus totP; rw [if_neg (by push_cast; omega)]
    rw [this]
    simp -implicitDefEqProofs [w0, c0]
  · simp -implicitDefEqProofs [w0, c0]
    refine WL_for (fun i => ⟨sp 27 [(0, .view q 2 (l.map pgV)), (1, .i .i64 (k - l.length - sumP (l.take i))), (5, .i .i64 i)], [], []⟩) l.length (fun i => (0 : Int) ≤ k - l.length - sumP (l.take i)) _ (by simp -implicitDefEqProofs [sumP]) (by simp [sumP]; omega) ?_
    intro i hi hP
    by_cases hlt : i < l.length
    · have hw := wrap_i64 (n := (i : Int) + 1) (by omega) (by omega)
      have hb := hs _ (List.getElem_mem hlt)
      have hx := sumP_succ hlt
      have ht := sumP_take (l := l) (i + 1)
      have e1 := fun K => szPut_call l[i] (k - l.length - sumP (l.take i)) (hs' _ (List.getElem_mem hlt)) hP (by omega) K
      simp only [pgV] at e1
      have hx2 : k - l.length - (sumP (l.take (i + 1)) : Int) = k - l.length - sumP (l.take i) - l[i].data.length := by omega
      by_cases c1 : (l[i].data.length : Int) ≤ k - l.length - sumP (l.take i)
      · have e2 : minus (k - l.length - sumP (l.take i)) l[i].data.length = k - l.length - sumP (l.take i) - l[i].data.length := if_pos c1
        rw [e2] at e1
        have c2 : 0 ≤ k - l.length - sumP (l.take i) - l[i].data.length := by omega
        have c3 : ¬ k - l.length - sumP (l.take i) - l[i].data.length < 0 := by omega
        simp -implicitDefEqProofs [hlt, hw, pgV, e1, c1, c2, c3, hx2, Next]
      · have e2 : minus (k - l.length - sumP (l.take i)) l[i].data.length = -1 := if_neg c1
        rw [e2] at e1
        have : minus k (totP l) = -1 := by unfold minus totP; rw [if_neg (by push_cast; omega)]
        rw [this]
        simp -implicitDefEqProofs [hlt, hw, pgV, e1]
    · have : i = l.length := by omega
      subst this
      rw [List.take_length] at hP ⊢
      have : minus k (totP l) = k - l.length - sumP l := by unfold minus totP; rw [if_pos (by push_cast; omega)]; push_cast; omega
      rw [this]
      simp -implicitDefEqProofs
theorem szPage_call (p : Pg) (k : Int) (hs : p.data.length < big) (k0 : 0 ≤ k) (k1 : k ≤ 1048576) (K : Out → Prop) :
    Call prog 35 ⟨[pgV p, .i .i64 k], [], []⟩ K = K (.i .i64 (minus k p.data.length), [], []) := by
  refine Call_det ?_ K
  rw [Call_sp (p := prog) (f := 35) rfl _ _ _ rfl (by decide)]
  unfold big at hs
  have w0 := wrap_i64 (n := k - p.data.length) (by omega) (by omega)
  unfold minus
  by_cases c0 : (p.data.length : Int) ≤ k
  · have c1 : ¬ k - p.data.length < 0 := by omega
    simp -implicitDefEqProofs [pgV, w0, c0, c1]
  · have c1 : k - p.data.length < 0 := by omega
    simp -implicitDefEqProofs [pgV, w0, c0, c1]
theorem szPageS_call (q : Bool) (l : List Pg) (k : Int) (hl : l.length < big) (hs : ∀ s, s ∈ l → s.data.length < big) (k0 : 0 ≤ k) (k1 : k ≤ 1048576) (K : Out → Prop) :
    Call prog 14 ⟨[.view q 2 (l.map pgV), .i .i64 k], [], []⟩ K = K (.i .i64 (minus k (totP l)), [], []) := by
  refine Call_det ?_ K
  rw [Call_sp (p := prog) (f := 14) rfl _ _ _ rfl (by decide)]
  have hl' := hl
  have hs' := hs
  unfold big at hl hs
  have w0 := wrap_i64 (n := k - l.length) (by omega) (by omega)
  by_cases c0 : k - l.length < 0
  · have : minus k (totP l) = -1 := by unfold minus totP; rw [if_neg (by push_cast; omega)]
    rw [this]
    simp -implicitDefEqProofs [w0, c0]
  · simp -implicitDefEqProofs [w0, c0]
    refine WL_for (fun i => ⟨sp 27 [(0, .view q 2 (l.map pgV)), (1, .i .i64 (k - l.length - sumP (l.take i))), (5, .i .i64 i)], [], []⟩) l.length (fun i => (0 : Int) ≤ k - l.length - sumP (l.take i)) _ (by simp -implicitDefEqProofs [sumP]) (by simp [sumP]; omega) ?_
    intro i hi hP
    by_cases hlt : i < l.length
    · have hw := wrap_i64 (n := (i : Int) + 1) (by omega) (by omega)
      have hb := hs _ (List.getElem_mem hlt)
      have hx := sumP_succ hlt
      have ht := sumP_take (l := l) (i + 1)
      have e1 := fun K => szPage_call l[i] (k - l.length - sumP (l.take i)) (hs' _ (List.getElem_mem hlt)) hP (by omega) K
      simp only [pgV] at e1
      have hx2 : k - l.length - (sumP (l.take (i + 1)) : Int) = k - l.length - sumP (l.take i) - l[i].data.length := by omega
      by_cases c1 : (l[i].data.length : Int) ≤ k - l.length - sumP (l.take i)
      · have e2 : minus (k - l.length - sumP (l.take i)) l[i].data.length = k - l.length - sumP (l.take i) - l[i].data.length := if_pos c1
        rw [e2] at e1
        have c2 : 0 ≤ k - l.length - sumP (l.take i) - l[i].data.length := by omega
        have c3 : ¬ k - l.length - sumP (l.take i) - l[i].data.length < 0 := by omega
        simp -implicitDefEqProofs [hlt, hw, pgV, e1, c1, c2, c3, hx2, Next]
      · have e2 : minus (k - l.length - sumP (l.take i)) l[i].data.length = -1 := if_neg c1
        rw [e2] at e1
        have : minus k (totP l) = -1 := by unfold minus totP; rw [if_neg (by push_cast; omega)]
        rw [this]
        simp -implicitDefEqProofs [hlt, hw, pgV, e1]
    · have : i = l.length := by omega
      subst this
      rw [List.take_length] at hP ⊢
      have : minus k (totP l) = k - l.length - sumP l := by unfold minus totP; rw [if_pos (by push_cast; omega)]; push_cast; omega
      rw [this]
      simp -implicitDefEqProofs
end Go.VS
end
section
namespace Go.VS
set_option linter.unusedSimpArgs false

/-- A slice that comes from outside. -/
def slc (n : Bool) (z : Nat) (xs : List V) : V := if n = true ∧ xs = [] then .nil else .view true z xs
@[simp] theorem noPtrL_slc (n : Bool) (z : Nat) (xs : List V) : noPtrL (slc n z xs) = true := by unfold slc; split <;> rfl
@[simp] theorem noPtr_slc (n : Bool) (z : Nat) (xs : List V) : noPtr (slc n z xs) = true := by unfold slc; split <;> rfl
theorem slc_cases (n : Bool) (z : Nat) (xs : List V) : (slc n z xs = .nil ∧ xs = []) ∨ slc n z xs = .view true z xs := by
  unfold slc; split
  · rename_i h; exact .inl ⟨rfl, h.2⟩
  · exact .inr rfl
@[simp] theorem lend_slc {s : St} {xp : Xp} {k : Nat} (n : Bool) (z : Nat) (xs : List V) : lend s xp (k + 1) (slc n z xs) = slc n z xs := by
  rcases slc_cases n z xs with ⟨h, _⟩ | h <;> rw [h] <;> rfl
@[simp] theorem lendA_slc1 {s : St} {xp : Xp} (n : Bool) (xs : List V) : lendA s xp 1 (slc n 1 xs) = .view true 1 xs := by
  rcases slc_cases n 1 xs with ⟨h, h2⟩ | h <;> rw [h]
  · rw [h2]; rfl
  · rfl
@[simp] theorem lendA_slc2 {s : St} {xp : Xp} (n : Bool) (xs : List V) : lendA s xp 2 (slc n 2 xs) = .view true 2 xs := by
  rcases slc_cases n 2 xs with ⟨h, h2⟩ | h <;> rw [h]
  · rw [h2]; rfl
  · rfl
@[simp] theorem isLeaf_slc (n : Bool) (z : Nat) (xs : List V) : isLeaf (slc n z xs) = true := by
  rcases slc_cases n z xs with ⟨h, _⟩ | h <;> rw [h] <;> rfl
attribute [-simp] isLeaf
@[simp] theorem isLeaf_i (k x) : isLeaf (.i k x) = true := rfl
@[simp] theorem isLeaf_b (x) : isLeaf (.b x) = true := rfl
@[simp] theorem isLeaf_s (x) : isLeaf (.s x) = true := rfl
@[simp] theorem isLeaf_nil : isLeaf .nil = true := rfl
@[simp] theorem isLeaf_view (q z xs) : isLeaf (.view q z xs) = true := rfl
@[simp] theorem isLeaf_sl (a b c d) : isLeaf (.sl a b c d) = true := rfl
@[simp] theorem isLeaf_ptr (a b) : isLeaf (.ptr a b) = true := rfl
structure N4 where
  a : Bool
  b : Bool
  c : Bool
  d : Bool
def dkR (n : N4) (d : Dk) : List V := [slc n.a 1 (d.blocks.map .s), slc n.b 2 (d.pend.map pgV), .i .i64 d.fuse, .b d.off]
def prR (n : N4) (p : Pr) : List V := [slc n.a 1 (p.disk.blocks.map .s), slc n.b 2 (p.disk.pend.map pgV), .i .i64 p.disk.fuse, .b p.disk.off,
  .i .i64 p.su.blocks, .i .i64 p.su.log, .i .i64 p.su.seq, .i .i64 p.su.turn, .i .i64 p.seq, .i .i64 p.at_, slc n.c 2 (p.logged.map pgV), slc n.d 2 (p.dirty.map pgV)]
def Dk.tot (d : Dk) : Nat := totS d.blocks + totP d.pend
def Pr.tot (p : Pr) : Nat := p.disk.tot + totP p.logged + totP p.dirty
structure Dk.big (d : Dk) : Prop where
  b : d.blocks.length < Go.VS.big
  bs : ∀ s, s ∈ d.blocks → s.length < Go.VS.big
  p : d.pend.length < Go.VS.big
  ps : ∀ s, s ∈ d.pend → s.data.length < Go.VS.big
structure Pr.big (p : Pr) : Prop where
  d : p.disk.big
  l : p.logged.length < Go.VS.big
  ls : ∀ s, s ∈ p.logged → s.data.length < Go.VS.big
  y : p.dirty.length < Go.VS.big
  ys : ∀ s, s ∈ p.dirty → s.data.length < Go.VS.big
theorem minus_lt {k : Int} {a : Nat} (h : minus k a < 0) : minus k a = -1 := by
  unfold minus at h ⊢; split
  · rename_i c; rw [if_pos c] at h; omega
  · rfl
theorem minus_neg {k : Int} {a : Nat} (b : Nat) (h : ¬ (a : Int) ≤ k) : minus k a = -1 ∧ minus k (a + b) = -1 := by
  unfold minus; constructor
  · exact if_neg h
  · exact if_neg (by push_cast; omega)
theorem minus_pos {k : Int} {a : Nat} (b : Nat) (h : (a : Int) ≤ k) : minus k a = k - a ∧ minus (k - a) b = minus k (a + b) := by
  unfold minus; constructor
  · exact if_pos h
  · by_cases c : (b : Int) ≤ k - a
    · rw [if_pos c, if_pos (by push_cast; omega)]; push_cast; omega
    · rw [if_neg c, if_neg (by push_cast; omega)]
theorem szDisk_call (n : N4) (d : Dk) (h : d.big) (k : Int) (k0 : 0 ≤ k) (k1 : k ≤ 1048576) (K : Out → Prop) :
    Call prog 13 ⟨[.agg (dkR n d), .i .i64 k], [], []⟩ K = K (.i .i64 (minus k d.tot), [], []) := by
  refine Call_det ?_ K
  rw [Call_sp (p := prog) (f := 13) rfl _ _ _ rfl (by decide)]
  have e1 := fun K => szStringS_call true d.blocks k h.b h.bs k0 k1 K
  unfold Dk.tot dkR
  by_cases c1 : (totS d.blocks : Int) ≤ k
  · obtain ⟨m1, m2⟩ := minus_pos (totP d.pend) c1
    rw [m1] at e1
    have e2 := fun K => szPutS_call true d.pend (k - totS d.blocks) h.p h.ps (by omega) (by omega) K
    rw [m2] at e2
    have c2 : ¬ k - totS d.blocks < 0 := by omega
    by_cases c3 : minus k (totS d.blocks + totP d.pend) < 0
    · have : minus k (totS d.blocks + totP d.pend) = -1 := minus_lt c3
      rw [this] at e2 ⊢
      simp -implicitDefEqProofs [e1, e2, c2]
    · simp -implicitDefEqProofs [e1, e2, c2, c3]
  · obtain ⟨m1, m2⟩ := minus_neg (totP d.pend) c1
    rw [m1] at e1
    rw [m2]
    simp -implicitDefEqProofs [e1]
theorem szPager_call (n : N4) (p : Pr) (h : p.big) (k : Int) (k0 : 0 ≤ k) (k1 : k ≤ 1048576) (K : Out → Prop) :
    Call prog 0 ⟨[.agg (prR n p), .i .i64 k], [], []⟩ K = K (.i .i64 (minus k p.tot), [], []) := by
  refine Call_det ?_ K
  rw [Call_sp (p := prog) (f := 0) rfl _ _ _ rfl (by decide)]
  have e1 := fun K => szDisk_call n p.disk h.d k k0 k1 K
  unfold dkR at e1
  unfold Pr.tot prR
  by_cases c1 : (p.disk.tot : Int) ≤ k
  · obtain ⟨m1, m2⟩ := minus_pos (totP p.logged) c1
    rw [m1] at e1
    have e2 := fun K => szPageS_call true p.logged (k - p.disk.tot) h.l h.ls (by omega) (by omega) K
    rw [m2] at e2
    have c2 : ¬ k - p.disk.tot < 0 := by omega
    by_cases c3 : ((p.disk.tot + totP p.logged : Nat) : Int) ≤ k
    · obtain ⟨m3, m4⟩ := minus_pos (totP p.dirty) c3
      rw [m3] at e2
      have e3 := fun K => szPageS_call true p.dirty (k - (p.disk.tot + totP p.logged : Nat)) h.y h.ys (by omega) (by omega) K
      rw [m4] at e3
      have c4 : ¬ k - ((p.disk.tot + totP p.logged : Nat) : Int) < 0 := by omega
      generalize ((p.disk.tot + totP p.logged : Nat) : Int) = z at e2 e3 c4
      by_cases c5 : minus k (p.disk.tot + totP p.logged + totP p.dirty) < 0
      · have : minus k (p.disk.tot + totP p.logged + totP p.dirty) = -1 := minus_lt c5
        rw [this] at e3 ⊢
        simp -implicitDefEqProofs [e1, e2, e3, c2, c4]
      · simp -implicitDefEqProofs [e1, e2, e3, c2, c4, c5]
    · obtain ⟨m3, m4⟩ := minus_neg (totP p.dirty) c3
      rw [m3] at e2
      rw [m4]
      simp -implicitDefEqProofs [e1, e2, c2]
  · obtain ⟨m1, m2⟩ := minus_neg (totP p.logged + totP p.dirty) c1
    rw [m1] at e1
    rw [Nat.add_assoc, m2]
    simp -implicitDefEqProofs [e1]
end Go.VS
end
section
namespace Go.VS
set_option linter.unusedSimpArgs false
set_option maxRecDepth 4000

theorem fill_get {α : Type} {xs : List α} {d e : α} {i n : Nat} (h : i < n) (hn : xs.length = n) : (xs.take i ++ List.replicate (n - i) d)[i]?.getD e = d := by
  have h1 : (xs.take i).length = i := by rw [List.length_take]; omega
  rw [List.getElem?_append_right (by omega), h1, Nat.sub_self, List.getElem?_replicate, if_pos (by omega)]; rfl
theorem fill_set {α : Type} {xs : List α} {d x : α} {i n : Nat} (h : i < n) (hn : xs.length = n) (hx : xs[i]? = some x) : (xs.take i ++ List.replicate (n - i) d).set i x = xs.take (i + 1) ++ List.replicate (n - (i + 1)) d := by
  have h1 : (xs.take i).length = i := by rw [List.length_take]; omega
  obtain ⟨h2, h3⟩ := List.getElem?_eq_some_iff.1 hx
  rw [List.set_append_right _ _ (by omega), h1, Nat.sub_self, show n - i = (n - (i + 1)) + 1 by omega, List.replicate_succ, List.set_cons_zero, ← List.take_append_getElem h2, h3, List.append_assoc]; rfl
theorem toPage_call (p : Pg) (K : Out → Prop) : Call prog 48 ⟨[pgV p], [], []⟩ K = K (pgV p, [], []) := by
  refine Call_det ?_ K
  rw [Call_sp (p := prog) (f := 48) rfl _ _ _ rfl (by decide)]
  simp -implicitDefEqProofs [pgV]
theorem toPut_call (p : Pg) (K : Out → Prop) : Call prog 77 ⟨[pgV p], [], []⟩ K = K (pgV p, [], []) := by
  refine Call_det ?_ K
  rw [Call_sp (p := prog) (f := 77) rfl _ _ _ rfl (by decide)]
  simp -implicitDefEqProofs [pgV]
theorem toSuper_call (s : Su) (K : Out → Prop) : Call prog 19 ⟨[.agg (suC s)], [], []⟩ K = K (.agg (suC s), [], []) := by
  refine Call_det ?_ K
  rw [Call_sp (p := prog) (f := 19) rfl _ _ _ rfl (by decide)]
  obtain ⟨a, b, c, d⟩ := s
  simp -implicitDefEqProofs [suC, -Int.natCast_eq_zero]
theorem toStringS_call (q : Bool) (l : List Bs) (hl : l.length ≤ lim) (K : Out → Prop) : Call prog 46 ⟨[.view q 1 (l.map V.s)], [], []⟩ K = K (.sl 0 0 l.length false, [], [.row 1 false (l.map V.s)]) := by
  refine Call_det ?_ K
  rw [Call_sp (p := prog) (f := 46) rfl _ _ _ rfl (by decide)]
  have hl' := hl
  unfold lim at hl'
  simp -implicitDefEqProofs [hl]
  refine WL_for (fun i => ⟨sp 22 [(0, .view q 1 (l.map V.s)), (3, .sl 0 0 l.length false), (4, .i .i64 i)], [], [.row 1 false ((l.map V.s).take i ++ List.replicate (l.length - i) (V.s []))]⟩) l.length (fun _ => True) _ (by simp -implicitDefEqProofs) trivial ?_
  intro i hi _
  by_cases hlt : i < l.length
  · have hw := wrap_i64 (n := (i : Int) + 1) (by omega) (by omega)
    have h1 := fill_get (xs := l.map V.s) (d := V.s []) (e := V.no) hlt (by simp)
    have h2 := fill_set (xs := l.map V.s) (d := V.s []) (x := V.s l[i]) hlt (by simp) (by simp [hlt])
    simp -implicitDefEqProofs [hlt, hw, h1, h2, Next]
  · have : i = l.length := by omega
    subst this
    have ht : (l.map V.s).take l.length = l.map V.s := by rw [List.take_of_length_le (by simp)]
    simp -implicitDefEqProofs [ht]
theorem toPutS_call (q : Bool) (l : List Pg) (hl : l.length ≤ lim) (K : Out → Prop) : Call prog 47 ⟨[.view q 2 (l.map pgV)], [], []⟩ K = K (.sl 0 0 l.length false, [], [.row 2 false (l.map pgV)]) := by
  refine Call_det ?_ K
  rw [Call_sp (p := prog) (f := 47) rfl _ _ _ rfl (by decide)]
  have hl' := hl
  unfold lim at hl'
  simp -implicitDefEqProofs [hl]
  refine WL_for (fun i => ⟨sp 23 [(0, .view q 2 (l.map pgV)), (3, .sl 0 0 l.length false), (4, .i .i64 i)], [], [.row 2 false ((l.map pgV).take i ++ List.replicate (l.length - i) (V.agg [.i .i64 0, .s []]))]⟩) l.length (fun _ => True) _ (by simp -implicitDefEqProofs) trivial ?_
  intro i hi _
  by_cases hlt : i < l.length
  · have hw := wrap_i64 (n := (i : Int) + 1) (by omega) (by omega)
    have h1 := fill_get (xs := l.map pgV) (d := V.agg [.i .i64 0, .s []]) (e := V.no) hlt (by simp)
    have h2 := fill_set (xs := l.map pgV) (d := V.agg [.i .i64 0, .s []]) (x := pgV l[i]) hlt (by simp) (by simp [hlt])
    have e1 := fun K => toPut_call l[i] K
    simp only [pgV] at e1
    simp only [pgV] at h2
    simp -implicitDefEqProofs [hlt, hw, h1, h2, e1, pgV, Next]
  · have : i = l.length := by omega
    subst this
    have ht : (l.map pgV).take l.length = l.map pgV := by rw [List.take_of_length_le (by simp)]
    simp -implicitDefEqProofs [ht]
theorem toPageS_call (q : Bool) (l : List Pg) (hl : l.length ≤ lim) (K : Out → Prop) : Call prog 20 ⟨[.view q 2 (l.map pgV)], [], []⟩ K = K (.sl 0 0 l.length false, [], [.row 2 false (l.map pgV)]) := by
  refine Call_det ?_ K
  rw [Call_sp (p := prog) (f := 20) rfl _ _ _ rfl (by decide)]
  have hl' := hl
  unfold lim at hl'
  simp -implicitDefEqProofs [hl]
  refine WL_for (fun i => ⟨sp 23 [(0, .view q 2 (l.map pgV)), (3, .sl 0 0 l.length false), (4, .i .i64 i)], [], [.row 2 false ((l.map pgV).take i ++ List.replicate (l.length - i) (V.agg [.i .i64 0, .s []]))]⟩) l.length (fun _ => True) _ (by simp -implicitDefEqProofs) trivial ?_
  intro i hi _
  by_cases hlt : i < l.length
  · have hw := wrap_i64 (n := (i : Int) + 1) (by omega) (by omega)
    have h1 := fill_get (xs := l.map pgV) (d := V.agg [.i .i64 0, .s []]) (e := V.no) hlt (by simp)
    have h2 := fill_set (xs := l.map pgV) (d := V.agg [.i .i64 0, .s []]) (x := pgV l[i]) hlt (by simp) (by simp [hlt])
    have e1 := fun K => toPage_call l[i] K
    simp only [pgV] at e1
    simp only [pgV] at h2
    simp -implicitDefEqProofs [hlt, hw, h1, h2, e1, pgV, Next]
  · have : i = l.length := by omega
    subst this
    have ht : (l.map pgV).take l.length = l.map pgV := by rw [List.take_of_length_le (by simp)]
    simp -implicitDefEqProofs [ht]
end Go.VS
end
section
namespace Go.VS
set_option linter.unusedSimpArgs false
set_option maxRecDepth 4000
attribute [-simp] isLeaf

def dkW (d : Dk) : List V := [.sl 0 0 d.blocks.length false, .sl 1 0 d.pend.length false, .i .i64 d.fuse, .b d.off]
def dkRows (d : Dk) : List Rw := [.row 1 false (d.blocks.map .s), .row 2 false (d.pend.map pgV)]
/-- A pager of one's own. -/
def prW (p : Pr) : List V := [.sl 0 0 p.disk.blocks.length false, .sl 1 0 p.disk.pend.length false, .i .i64 p.disk.fuse, .b p.disk.off,
  .i .i64 p.su.blocks, .i .i64 p.su.log, .i .i64 p.su.seq, .i .i64 p.su.turn, .i .i64 p.seq, .i .i64 p.at_, .sl 2 0 p.logged.length false, .sl 3 0 p.dirty.length false]
def prRows (p : Pr) : List Rw := [.row 1 false (p.disk.blocks.map .s), .row 2 false (p.disk.pend.map pgV), .row 2 false (p.logged.map pgV), .row 2 false (p.dirty.map pgV)]
theorem toDisk_call (n : N4) (d : Dk) (h1 : d.blocks.length ≤ lim) (h2 : d.pend.length ≤ lim) (K : Out → Prop) :
    Call prog 18 ⟨[.agg (dkR n d)], [], []⟩ K = K (.agg (dkW d), [], dkRows d) := by
  refine Call_det ?_ K
  rw [Call_sp (p := prog) (f := 18) rfl _ _ _ rfl (by decide)]
  obtain ⟨bl, pe, fu, off⟩ := d
  have e1 := fun K => toStringS_call true bl h1 K
  have e2 := fun K => toPutS_call true pe h2 K
  simp -implicitDefEqProofs [dkR, dkW, dkRows, e1, e2]
theorem toPager_call (n : N4) (p : Pr) (h : p.sm) (K : Out → Prop) :
    Call prog 1 ⟨[.agg (prR n p)], [], []⟩ K = K (.agg (prW p), [], prRows p) := by
  refine Call_det ?_ K
  rw [Call_sp (p := prog) (f := 1) rfl _ _ _ rfl (by decide)]
  have e1 := fun K => toDisk_call n p.disk h.sb h.sp K
  have e2 := fun K => toSuper_call p.su K
  have e3 := fun K => toPageS_call true p.logged h.sl K
  have e4 := fun K => toPageS_call true p.dirty h.sd K
  obtain ⟨⟨bl, pe, fu, off⟩, ⟨a, b, c, d⟩, sq, at_, lo, di⟩ := p
  simp only [dkR, dkW, dkRows, suC] at e1 e2 e3 e4
  simp -implicitDefEqProofs [prR, prW, prRows, e1, e2, e3, e4]
end Go.VS
end
section
namespace Go.VS
set_option linter.unusedSimpArgs false
set_option maxRecDepth 4000
attribute [-simp] isLeaf

theorem eqPage_call (p : Pg) (K : Out → Prop) : Call prog 58 ⟨[pgV p, pgV p], [], []⟩ K = K (.b true, [], []) := by
  refine Call_det ?_ K
  rw [Call_sp (p := prog) (f := 58) rfl _ _ _ rfl (by decide)]
  obtain ⟨a, b⟩ := p
  simp -implicitDefEqProofs [pgV]
theorem eqPut_call (p : Pg) (K : Out → Prop) : Call prog 91 ⟨[pgV p, pgV p], [], []⟩ K = K (.b true, [], []) := by
  refine Call_det ?_ K
  rw [Call_sp (p := prog) (f := 91) rfl _ _ _ rfl (by decide)]
  obtain ⟨a, b⟩ := p
  simp -implicitDefEqProofs [pgV]
theorem eqSuper_call (s : Su) (K : Out → Prop) : Call prog 25 ⟨[.agg (suC s), .agg (suC s)], [], []⟩ K = K (.b true, [], []) := by
  refine Call_det ?_ K
  rw [Call_sp (p := prog) (f := 25) rfl _ _ _ rfl (by decide)]
  obtain ⟨a, b, c, d⟩ := s
  simp -implicitDefEqProofs [suC]
theorem eqStringS_call (q q' : Bool) (l : List Bs) (hl : l.length ≤ lim) (K : Out → Prop) : Call prog 56 ⟨[.view q 1 (l.map V.s), .view q' 1 (l.map V.s)], [], []⟩ K = K (.b true, [], []) := by
  refine Call_det ?_ K
  rw [Call_sp (p := prog) (f := 56) rfl _ _ _ rfl (by decide)]
  unfold lim at hl
  simp -implicitDefEqProofs
  refine WL_for (fun i => ⟨sp 26 [(0, .view q 1 (l.map V.s)), (1, .view q' 1 (l.map V.s)), (5, .i .i64 i)], [], []⟩) l.length (fun _ => True) _ (by simp -implicitDefEqProofs) trivial ?_
  intro i hi _
  by_cases hlt : i < l.length
  · have hw := wrap_i64 (n := (i : Int) + 1) (by omega) (by omega)
    simp -implicitDefEqProofs [hlt, hw, Next]
  · simp -implicitDefEqProofs [hlt]
theorem eqInt64S_call (q q' : Bool) (l : List Int) (hl : l.length ≤ lim) (K : Out → Prop) : Call prog 7 ⟨[.view q 1 (l.map (V.i .i64)), .view q' 1 (l.map (V.i .i64))], [], []⟩ K = K (.b true, [], []) := by
  refine Call_det ?_ K
  rw [Call_sp (p := prog) (f := 7) rfl _ _ _ rfl (by decide)]
  unfold lim at hl
  simp -implicitDefEqProofs
  refine WL_for (fun i => ⟨sp 26 [(0, .view q 1 (l.map (V.i .i64))), (1, .view q' 1 (l.map (V.i .i64))), (5, .i .i64 i)], [], []⟩) l.length (fun _ => True) _ (by simp -implicitDefEqProofs) trivial ?_
  intro i hi _
  by_cases hlt : i < l.length
  · have hw := wrap_i64 (n := (i : Int) + 1) (by omega) (by omega)
    simp -implicitDefEqProofs [hlt, hw, Next]
  · simp -implicitDefEqProofs [hlt]
theorem eqPutS_call (q q' : Bool) (l : List Pg) (hl : l.length ≤ lim) (K : Out → Prop) : Call prog 57 ⟨[.view q 2 (l.map pgV), .view q' 2 (l.map pgV)], [], []⟩ K = K (.b true, [], []) := by
  refine Call_det ?_ K
  rw [Call_sp (p := prog) (f := 57) rfl _ _ _ rfl (by decide)]
  unfold lim at hl
  simp -implicitDefEqProofs
  refine WL_for (fun i => ⟨sp 27 [(0, .view q 2 (l.map pgV)), (1, .view q' 2 (l.map pgV)), (5, .i .i64 i)], [], []⟩) l.length (fun _ => True) _ (by simp -implicitDefEqProofs) trivial ?_
  intro i hi _
  by_cases hlt : i < l.length
  · have hw := wrap_i64 (n := (i : Int) + 1) (by omega) (by omega)
    have e1 := fun K => eqPut_call l[i] K
    simp only [pgV] at e1
    simp -implicitDefEqProofs [hlt, hw, e1, pgV, Next]
  · simp -implicitDefEqProofs [hlt]
theorem eqPageS_call (q q' : Bool) (l : List Pg) (hl : l.length ≤ lim) (K : Out → Prop) : Call prog 26 ⟨[.view q 2 (l.map pgV), .view q' 2 (l.map pgV)], [], []⟩ K = K (.b true, [], []) := by
  refine Call_det ?_ K
  rw [Call_sp (p := prog) (f := 26) rfl _ _ _ rfl (by decide)]
  unfold lim at hl
  simp -implicitDefEqProofs
  refine WL_for (fun i => ⟨sp 27 [(0, .view q 2 (l.map pgV)), (1, .view q' 2 (l.map pgV)), (5, .i .i64 i)], [], []⟩) l.length (fun _ => True) _ (by simp -implicitDefEqProofs) trivial ?_
  intro i hi _
  by_cases hlt : i < l.length
  · have hw := wrap_i64 (n := (i : Int) + 1) (by omega) (by omega)
    have e1 := fun K => eqPage_call l[i] K
    simp only [pgV] at e1
    simp -implicitDefEqProofs [hlt, hw, e1, pgV, Next]
  · simp -implicitDefEqProofs [hlt]
theorem eqDisk_call (q q' : Bool) (d : Dk) (h1 : d.blocks.length ≤ lim) (h2 : d.pend.length ≤ lim) (K : Out → Prop) :
    Call prog 24 ⟨[.agg (dkC q d), .agg (dkC q' d)], [], []⟩ K = K (.b true, [], []) := by
  refine Call_det ?_ K
  rw [Call_sp (p := prog) (f := 24) rfl _ _ _ rfl (by decide)]
  obtain ⟨bl, pe, fu, off⟩ := d
  have e1 := fun K => eqStringS_call q q' bl h1 K
  have e2 := fun K => eqPutS_call q q' pe h2 K
  cases off <;> simp -implicitDefEqProofs [dkC, e1, e2]
theorem eqPager_call (q q' : Bool) (p : Pr) (h : p.sm) (K : Out → Prop) :
    Call prog 4 ⟨[.agg (prC q p), .agg (prC q' p)], [], []⟩ K = K (.b true, [], []) := by
  refine Call_det ?_ K
  rw [Call_sp (p := prog) (f := 4) rfl _ _ _ rfl (by decide)]
  have e1 := fun K => eqDisk_call q q' p.disk h.sb h.sp K
  have e2 := fun K => eqSuper_call p.su K
  have e3 := fun K => eqPageS_call q q' p.logged h.sl K
  have e4 := fun K => eqPageS_call q q' p.dirty h.sd K
  obtain ⟨⟨bl, pe, fu, off⟩, ⟨a, b, c, d⟩, sq, at_, lo, di⟩ := p
  simp only [dkC, suC] at e1 e2 e3 e4
  simp -implicitDefEqProofs [prC, e1, e2, e3, e4]
@[simp] theorem canonP_sp0 {n : Nat} {lv : List Nat} (h : srt 0 n lv = true) (pc : Nat) (l : List (Nat × V)) (m : List (List V)) (nb : Nat) :
    St.canonP pc ⟨sp n l, m, []⟩ lv nb = canE nb n (kp lv l) (m.take nb) [] (List.range pc) := by
  rw [canonP_sp h, rids_nil, ridsE_nil]
end Go.VS
end
section
namespace Go.VS
set_option linter.unusedSimpArgs false
set_option maxRecDepth 4000
attribute [-simp] isLeaf

def dig (k : Nat) : UInt8 := UInt8.ofNat (48 + k % 10)
def mtext : Nat → Nat → Bs → Bs
  | 0, _, o => o
  | n + 1, k, o => if k = 0 then o else mtext n (k / 10) (dig k :: o)
theorem markText_call (k : Nat) (k0 : 0 < k) (k1 : k ≤ 16777216) (K : Out → Prop) : Call prog 64 ⟨[.i .i64 k], [], []⟩ K = K (.s (109 :: mtext k k []), [], []) := by
  refine Call_det ?_ K
  rw [Call_sp (p := prog) (f := 64) rfl _ _ _ rfl (by decide)]
  have c0 : ¬ k = 0 := by omega
  simp -implicitDefEqProofs [c0]
  refine WL_st (α := Nat × Nat × Bs) (fun x => ⟨sp 20 [(0, .i .i64 x.2.1), (3, .s x.2.2)], [], []⟩) (fun x => x.1) (fun x => mtext k k [] = mtext x.1 x.2.1 x.2.2 ∧ x.2.1 ≤ x.1 ∧ x.2.1 ≤ 16777216 ∧ x.2.2.length + x.2.1 ≤ 16777216) (k, k, []) _ (by simp -implicitDefEqProofs) ⟨rfl, by simp, by simpa using k1, by simpa using k1⟩ ?_
  rintro ⟨n, j, o⟩ ⟨hP, h1, h2, h3⟩
  simp only at hP h1 h2 h3
  by_cases hj : j = 0
  · subst hj
    have : mtext n 0 o = o := by cases n <;> simp [mtext]
    rw [this] at hP
    rw [hP]
    have c1 : 1 + o.length ≤ lim := by unfold lim; omega
    simp -implicitDefEqProofs [c1]
  · cases n with
    | zero => omega
    | succ n =>
      rw [mtext, if_neg hj] at hP
      have hj0 : 0 < j := by omega
      have e1 : (j : Int).tmod 10 = ((j % 10 : Nat) : Int) := rfl
      have e2 : (j : Int).tdiv 10 = ((j / 10 : Nat) : Int) := rfl
      have w0 : IntKind.i64.wrap (48 + (j : Int).tmod 10) = 48 + ((j % 10 : Nat) : Int) := by rw [e1]; exact wrap_i64 (by omega) (by omega)
      have hd : (dig j).toNat = 48 + j % 10 := by unfold dig; simp; omega
      have hu : IntKind.u8.wrap (48 + ((j % 10 : Nat) : Int)) = ((dig j).toNat : Int) := by
        rw [hd, wrap_u8 (by omega) (by omega)]; push_cast; rfl
      have hu2 : IntKind.u8.wrap (48 + (j : Int) % 10) = ((dig j).toNat : Int) := by rw [← hu]; push_cast; rfl
      have w3 : IntKind.i64.wrap ((j : Int).tdiv 10) = ((j / 10 : Nat) : Int) := by rw [e2]; exact wrap_i64 (by omega) (by omega)
      have w4 : IntKind.i64.wrap ((j : Int) / 10) = (j : Int) / 10 := wrap_i64 (by omega) (by omega)
      have cv : ∀ t m, cvsV ⟨t, m, [.row 1 false [.i .u8 ((dig j).toNat : Int)]]⟩ (.sl 0 0 1 false) = some (.s [dig j]) := by
        intro t m; simp [cvsV, vbytes]
      have c1 : 1 + o.length ≤ lim := by unfold lim; omega
      simp -implicitDefEqProofs [hj0, w0, hu, hu2, cv, c1, w3, w4]
      refine NextS.mk (n, j / 10, dig j :: o) ⟨hP, by simp only; omega, by simp only; omega, by simp; omega⟩ (by simp) (by simp)
/-- What a slice of texts is after the marks. -/
def mtx (k : Nat) : Bs := 109 :: mtext k k []
theorem mtx_call (k : Nat) (k0 : 0 < k) (k1 : k ≤ 16777216) (K : Out → Prop) : Call prog 64 ⟨[.i .i64 k], [], []⟩ K = K (.s (mtx k), [], []) := markText_call k k0 k1 K
/-- The first i elements marked. -/
def mix (f : Nat → V) (xs : List V) (i : Nat) : List V := (List.range i).map f ++ xs.drop i
theorem mix_zero (f : Nat → V) (xs : List V) : mix f xs 0 = xs := by simp [mix]
theorem mix_all (f : Nat → V) (xs : List V) : mix f xs xs.length = (List.range xs.length).map f := by simp [mix]
theorem mix_set {f : Nat → V} {xs : List V} {i : Nat} (h : i < xs.length) : (mix f xs i).set i (f i) = mix f xs (i + 1) := by
  unfold mix
  rw [List.set_append_right _ _ (by simp), List.length_map, List.length_range, Nat.sub_self, List.drop_eq_getElem_cons h, List.set_cons_zero, List.range_succ, List.map_append, List.append_assoc]; rfl
def mkS (k n : Nat) : List Bs := (List.range n).map fun i => mtx (k + i)
def mkP (k n : Nat) : List Pg := (List.range n).map fun i => ⟨((k + 2 * i : Nat) : Int), mtx (k + 2 * i + 1)⟩
def mkM (k n : Nat) : List Ms := (List.range n).map fun i => ⟨((k + 3 * i : Nat) : Int), ((k + 3 * i + 1 : Nat) : Int), mtx (k + 3 * i + 2)⟩
@[simp] theorem mkS_len (k n : Nat) : (mkS k n).length = n := by simp [mkS]
@[simp] theorem mkP_len (k n : Nat) : (mkP k n).length = n := by simp [mkP]
@[simp] theorem mkM_len (k n : Nat) : (mkM k n).length = n := by simp [mkM]
theorem markStringS_call (xs : List V) (k : Nat) (k0 : 0 < k) (k1 : k + 1 * xs.length ≤ 16777216) (hx : ∀ x, x ∈ xs → ∃ l, x = .s l) (K : Out → Prop) :
    Call prog 1062 ⟨[.sl 0 0 xs.length false, .i .i64 k], [], [.row 1 false xs]⟩ K = K (.i .i64 ((k + 1 * xs.length : Nat) : Int), [], [.row 1 false ((mkS k xs.length).map .s)]) := by
  refine Call_det ?_ K
  rw [Call_pin_sp (p := prog) (f := 1062) rfl _ _ _ rfl (by decide) rfl]
  have hmk : (List.range xs.length).map (fun i => V.s (mtx (k + i))) = (mkS k xs.length).map .s := by simp [mkS, pgV, msV, Function.comp_def]
  simp -implicitDefEqProofs
  refine WL_st (α := Nat × List V) (fun x => ⟨sp 20 [(0, .sl 0 0 xs.length false), (1, .i .i64 ((k + 1 * x.1 : Nat) : Int)), (5, .i .i64 x.1)], [], [.row 1 false x.2]⟩) (fun x => xs.length - x.1) (fun x => x.1 ≤ xs.length ∧ x.2.length = xs.length ∧ (∀ y, y ∈ x.2 → ∃ l, y = .s l) ∧ x.2 = mix (fun i => V.s (mtx (k + i))) xs x.1) (0, xs) _ (by simp -implicitDefEqProofs) ⟨by simp, rfl, hx, (mix_zero _ _).symm⟩ ?_
  rintro ⟨i, ys⟩ ⟨h1, h2, h3, h4⟩
  simp only at h1 h2 h3 h4
  by_cases hlt : i < xs.length
  · have hw := wrap_i64 (n := (i : Int) + 1) (by omega) (by omega)
    have hw2 := wrap_i64 (n := (k : Int) + i + 1) (by omega) (by omega)
    have ea : (k : Int) + ((i : Int) + 1) = k + i + 1 := by omega
    have hlt2 : i < ys.length := by omega
    obtain ⟨l, hl⟩ := h3 ys[i] (List.getElem_mem hlt2)
    have hg : ys[i]?.getD .no = .s l := by rw [List.getElem?_eq_getElem hlt2, hl]; rfl
    have e1 := fun K => mtx_call (k + i) (by omega) (by omega) K
    simp only [Int.natCast_add, Tag_eq] at e1
    simp -implicitDefEqProofs [hlt, hlt2, h2, hw, hg, hl, hw2, e1]
    refine NextS.mk (i + 1, ys.set i ((fun i => V.s (mtx (k + i))) i)) ⟨by simp only; omega, by simp; omega, ?_, by rw [h4, mix_set hlt]⟩ (by simp only; omega) (by simp [ea])
    intro y hy
    rcases List.mem_or_eq_of_mem_set hy with hy | hy
    · exact h3 y hy
    · exact ⟨_, hy⟩
  · have : i = xs.length := by omega
    subst this
    rw [h4, mix_all, hmk]
    simp -implicitDefEqProofs
theorem markStringS_nil (k : Nat) (K : Out → Prop) : Call prog 1062 ⟨[.nil, .i .i64 k], [], []⟩ K = K (.i .i64 k, [], []) := by
  refine Call_det ?_ K
  rw [Call_pin_sp (p := prog) (f := 1062) rfl _ _ _ rfl (by decide) rfl]
  simp -implicitDefEqProofs
  refine WL_for (fun i => ⟨sp 20 [(0, .nil), (1, .i .i64 k), (5, .i .i64 0)], [], [.gone]⟩) 0 (fun _ => True) _ (by simp -implicitDefEqProofs) trivial ?_
  intro i hi _
  simp -implicitDefEqProofs
theorem markPutS_call (xs : List V) (k : Nat) (k0 : 0 < k) (k1 : k + 2 * xs.length ≤ 16777216) (hx : ∀ x, x ∈ xs → ∃ b l, x = .agg [.i .i64 b, .s l]) (K : Out → Prop) :
    Call prog 1063 ⟨[.sl 0 0 xs.length false, .i .i64 k], [], [.row 2 false xs]⟩ K = K (.i .i64 ((k + 2 * xs.length : Nat) : Int), [], [.row 2 false ((mkP k xs.length).map pgV)]) := by
  refine Call_det ?_ K
  rw [Call_pin_sp (p := prog) (f := 1063) rfl _ _ _ rfl (by decide) rfl]
  have hmk : (List.range xs.length).map (fun i => V.agg [.i .i64 ((k + 2 * i : Nat) : Int), .s (mtx (k + 2 * i + 1))]) = (mkP k xs.length).map pgV := by simp [mkP, pgV, msV, Function.comp_def]
  simp -implicitDefEqProofs
  refine WL_st (α := Nat × List V) (fun x => ⟨sp 28 [(0, .sl 0 0 xs.length false), (1, .i .i64 ((k + 2 * x.1 : Nat) : Int)), (5, .i .i64 x.1)], [], [.row 2 false x.2]⟩) (fun x => xs.length - x.1) (fun x => x.1 ≤ xs.length ∧ x.2.length = xs.length ∧ (∀ y, y ∈ x.2 → ∃ b l, y = .agg [.i .i64 b, .s l]) ∧ x.2 = mix (fun i => V.agg [.i .i64 ((k + 2 * i : Nat) : Int), .s (mtx (k + 2 * i + 1))]) xs x.1) (0, xs) _ (by simp -implicitDefEqProofs) ⟨by simp, rfl, hx, (mix_zero _ _).symm⟩ ?_
  rintro ⟨i, ys⟩ ⟨h1, h2, h3, h4⟩
  simp only at h1 h2 h3 h4
  by_cases hlt : i < xs.length
  · have hw := wrap_i64 (n := (i : Int) + 1) (by omega) (by omega)
    have hw2 := wrap_i64 (n := (k : Int) + 2 * i + 1) (by omega) (by omega)
    have hw3 := wrap_i64 (n := (k : Int) + 2 * i + 1 + 1) (by omega) (by omega)
    have ea : (k : Int) + 2 * ((i : Int) + 1) = k + 2 * i + 1 + 1 := by omega
    have hlt2 : i < ys.length := by omega
    obtain ⟨b, l, hl⟩ := h3 ys[i] (List.getElem_mem hlt2)
    have hg : ys[i]?.getD .no = .agg [.i .i64 b, .s l] := by rw [List.getElem?_eq_getElem hlt2, hl]; rfl
    have e1 := fun K => mtx_call (k + 2 * i + 1) (by omega) (by omega) K
    simp only [Int.natCast_add, Int.natCast_mul, Int.cast_ofNat_Int, Int.natCast_one, Tag_eq] at e1
    simp -implicitDefEqProofs [hlt, hlt2, h2, hw, hg, hl, hw2, hw3, e1]
    refine NextS.mk (i + 1, ys.set i ((fun i => V.agg [.i .i64 ((k + 2 * i : Nat) : Int), .s (mtx (k + 2 * i + 1))]) i)) ⟨by simp only; omega, by simp; omega, ?_, by rw [h4, mix_set hlt]⟩ (by simp only; omega) (by simp [ea])
    intro y hy
    rcases List.mem_or_eq_of_mem_set hy with hy | hy
    · exact h3 y hy
    · exact ⟨_, _, hy⟩
  · have : i = xs.length := by omega
    subst this
    rw [h4, mix_all, hmk]
    simp -implicitDefEqProofs
theorem markPutS_nil (k : Nat) (K : Out → Prop) : Call prog 1063 ⟨[.nil, .i .i64 k], [], []⟩ K = K (.i .i64 k, [], []) := by
  refine Call_det ?_ K
  rw [Call_pin_sp (p := prog) (f := 1063) rfl _ _ _ rfl (by decide) rfl]
  simp -implicitDefEqProofs
  refine WL_for (fun i => ⟨sp 28 [(0, .nil), (1, .i .i64 k), (5, .i .i64 0)], [], [.gone]⟩) 0 (fun _ => True) _ (by simp -implicitDefEqProofs) trivial ?_
  intro i hi _
  simp -implicitDefEqProofs
theorem markPageS_call (xs : List V) (k : Nat) (k0 : 0 < k) (k1 : k + 2 * xs.length ≤ 16777216) (hx : ∀ x, x ∈ xs → ∃ b l, x = .agg [.i .i64 b, .s l]) (K : Out → Prop) :
    Call prog 1030 ⟨[.sl 0 0 xs.length false, .i .i64 k], [], [.row 2 false xs]⟩ K = K (.i .i64 ((k + 2 * xs.length : Nat) : Int), [], [.row 2 false ((mkP k xs.length).map pgV)]) := by
  refine Call_det ?_ K
  rw [Call_pin_sp (p := prog) (f := 1030) rfl _ _ _ rfl (by decide) rfl]
  have hmk : (List.range xs.length).map (fun i => V.agg [.i .i64 ((k + 2 * i : Nat) : Int), .s (mtx (k + 2 * i + 1))]) = (mkP k xs.length).map pgV := by simp [mkP, pgV, msV, Function.comp_def]
  simp -implicitDefEqProofs
  refine WL_st (α := Nat × List V) (fun x => ⟨sp 28 [(0, .sl 0 0 xs.length false), (1, .i .i64 ((k + 2 * x.1 : Nat) : Int)), (5, .i .i64 x.1)], [], [.row 2 false x.2]⟩) (fun x => xs.length - x.1) (fun x => x.1 ≤ xs.length ∧ x.2.length = xs.length ∧ (∀ y, y ∈ x.2 → ∃ b l, y = .agg [.i .i64 b, .s l]) ∧ x.2 = mix (fun i => V.agg [.i .i64 ((k + 2 * i : Nat) : Int), .s (mtx (k + 2 * i + 1))]) xs x.1) (0, xs) _ (by simp -implicitDefEqProofs) ⟨by simp, rfl, hx, (mix_zero _ _).symm⟩ ?_
  rintro ⟨i, ys⟩ ⟨h1, h2, h3, h4⟩
  simp only at h1 h2 h3 h4
  by_cases hlt : i < xs.length
  · have hw := wrap_i64 (n := (i : Int) + 1) (by omega) (by omega)
    have hw2 := wrap_i64 (n := (k : Int) + 2 * i + 1) (by omega) (by omega)
    have hw3 := wrap_i64 (n := (k : Int) + 2 * i + 1 + 1) (by omega) (by omega)
    have ea : (k : Int) + 2 * ((i : Int) + 1) = k + 2 * i + 1 + 1 := by omega
    have hlt2 : i < ys.length := by omega
    obtain ⟨b, l, hl⟩ := h3 ys[i] (List.getElem_mem hlt2)
    have hg : ys[i]?.getD .no = .agg [.i .i64 b, .s l] := by rw [List.getElem?_eq_getElem hlt2, hl]; rfl
    have e1 := fun K => mtx_call (k + 2 * i + 1) (by omega) (by omega) K
    simp only [Int.natCast_add, Int.natCast_mul, Int.cast_ofNat_Int, Int.natCast_one, Tag_eq] at e1
    simp -implicitDefEqProofs [hlt, hlt2, h2, hw, hg, hl, hw2, hw3, e1]
    refine NextS.mk (i + 1, ys.set i ((fun i => V.agg [.i .i64 ((k + 2 * i : Nat) : Int), .s (mtx (k + 2 * i + 1))]) i)) ⟨by simp only; omega, by simp; omega, ?_, by rw [h4, mix_set hlt]⟩ (by simp only; omega) (by simp [ea])
    intro y hy
    rcases List.mem_or_eq_of_mem_set hy with hy | hy
    · exact h3 y hy
    · exact ⟨_, _, hy⟩
  · have : i = xs.length := by omega
    subst this
    rw [h4, mix_all, hmk]
    simp -implicitDefEqProofs
theorem markPageS_nil (k : Nat) (K : Out → Prop) : Call prog 1030 ⟨[.nil, .i .i64 k], [], []⟩ K = K (.i .i64 k, [], []) := by
  refine Call_det ?_ K
  rw [Call_pin_sp (p := prog) (f := 1030) rfl _ _ _ rfl (by decide) rfl]
  simp -implicitDefEqProofs
  refine WL_for (fun i => ⟨sp 28 [(0, .nil), (1, .i .i64 k), (5, .i .i64 0)], [], [.gone]⟩) 0 (fun _ => True) _ (by simp -implicitDefEqProofs) trivial ?_
  intro i hi _
  simp -implicitDefEqProofs
theorem markMessageS_call (xs : List V) (k : Nat) (k0 : 0 < k) (k1 : k + 3 * xs.length ≤ 16777216) (hx : ∀ x, x ∈ xs → ∃ b c l, x = .agg [.i .i64 b, .i .i64 c, .s l]) (K : Out → Prop) :
    Call prog 1203 ⟨[.sl 0 0 xs.length false, .i .i64 k], [], [.row 3 false xs]⟩ K = K (.i .i64 ((k + 3 * xs.length : Nat) : Int), [], [.row 3 false ((mkM k xs.length).map msV)]) := by
  refine Call_det ?_ K
  rw [Call_pin_sp (p := prog) (f := 1203) rfl _ _ _ rfl (by decide) rfl]
  have hmk : (List.range xs.length).map (fun i => V.agg [.i .i64 ((k + 3 * i : Nat) : Int), .i .i64 ((k + 3 * i + 1 : Nat) : Int), .s (mtx (k + 3 * i + 2))]) = (mkM k xs.length).map msV := by simp [mkM, pgV, msV, Function.comp_def]
  simp -implicitDefEqProofs
  refine WL_st (α := Nat × List V) (fun x => ⟨sp 35 [(0, .sl 0 0 xs.length false), (1, .i .i64 ((k + 3 * x.1 : Nat) : Int)), (5, .i .i64 x.1)], [], [.row 3 false x.2]⟩) (fun x => xs.length - x.1) (fun x => x.1 ≤ xs.length ∧ x.2.length = xs.length ∧ (∀ y, y ∈ x.2 → ∃ b c l, y = .agg [.i .i64 b, .i .i64 c, .s l]) ∧ x.2 = mix (fun i => V.agg [.i .i64 ((k + 3 * i : Nat) : Int), .i .i64 ((k + 3 * i + 1 : Nat) : Int), .s (mtx (k + 3 * i + 2))]) xs x.1) (0, xs) _ (by simp -implicitDefEqProofs) ⟨by simp, rfl, hx, (mix_zero _ _).symm⟩ ?_
  rintro ⟨i, ys⟩ ⟨h1, h2, h3, h4⟩
  simp only at h1 h2 h3 h4
  by_cases hlt : i < xs.length
  · have hw := wrap_i64 (n := (i : Int) + 1) (by omega) (by omega)
    have hw2 := wrap_i64 (n := (k : Int) + 3 * i + 1) (by omega) (by omega)
    have hw3 := wrap_i64 (n := (k : Int) + 3 * i + 1 + 1) (by omega) (by omega)
    have hw4 := wrap_i64 (n := (k : Int) + 3 * i + 1 + 1 + 1) (by omega) (by omega)
    have ea : (k : Int) + 3 * ((i : Int) + 1) = k + 3 * i + 1 + 1 + 1 := by omega
    have hlt2 : i < ys.length := by omega
    obtain ⟨b, c, l, hl⟩ := h3 ys[i] (List.getElem_mem hlt2)
    have hg : ys[i]?.getD .no = .agg [.i .i64 b, .i .i64 c, .s l] := by rw [List.getElem?_eq_getElem hlt2, hl]; rfl
    have e1 : ∀ K : Out → Prop, Call prog 64 ⟨[.i .i64 ((k : Int) + 3 * i + 1 + 1)], [], []⟩ K = K (.s (mtx (k + 3 * i + 2)), [], []) := by
      intro K
      have := mtx_call (k + 3 * i + 2) (by omega) (by omega) K
      rw [show ((k + 3 * i + 2 : Nat) : Int) = (k : Int) + 3 * i + 1 + 1 by omega] at this
      exact this
    simp -implicitDefEqProofs [hlt, hlt2, h2, hw, hg, hl, hw2, hw3, hw4, e1]
    refine NextS.mk (i + 1, ys.set i ((fun i => V.agg [.i .i64 ((k + 3 * i : Nat) : Int), .i .i64 ((k + 3 * i + 1 : Nat) : Int), .s (mtx (k + 3 * i + 2))]) i)) ⟨by simp only; omega, by simp; omega, ?_, by rw [h4, mix_set hlt]⟩ (by simp only; omega) (by simp [ea])
    intro y hy
    rcases List.mem_or_eq_of_mem_set hy with hy | hy
    · exact h3 y hy
    · exact ⟨_, _, _, hy⟩
  · have : i = xs.length := by omega
    subst this
    rw [h4, mix_all, hmk]
    simp -implicitDefEqProofs
theorem markMessageS_nil (k : Nat) (K : Out → Prop) : Call prog 1203 ⟨[.nil, .i .i64 k], [], []⟩ K = K (.i .i64 k, [], []) := by
  refine Call_det ?_ K
  rw [Call_pin_sp (p := prog) (f := 1203) rfl _ _ _ rfl (by decide) rfl]
  simp -implicitDefEqProofs
  refine WL_for (fun i => ⟨sp 35 [(0, .nil), (1, .i .i64 k), (5, .i .i64 0)], [], [.gone]⟩) 0 (fun _ => True) _ (by simp -implicitDefEqProofs) trivial ?_
  intro i hi _
  simp -implicitDefEqProofs
/-! ### Marks read -/
theorem heldStringS_call (q : Bool) (k n : Nat) (k0 : 0 < k) (k1 : k + n ≤ 16777216) (K : Out → Prop) :
    Call prog 229 ⟨[.view q 1 ((mkS k n).map .s), .i .i64 k], [], []⟩ K = K (.i .i64 ((k + n : Nat) : Int), [], []) := by
  refine Call_det ?_ K
  rw [Call_sp (p := prog) (f := 229) rfl _ _ _ rfl (by decide)]
  simp -implicitDefEqProofs
  refine WL_for (fun i => ⟨sp 22 [(0, .view q 1 ((mkS k n).map .s)), (1, .i .i64 ((k + i : Nat) : Int)), (5, .i .i64 i)], [], []⟩) n (fun _ => True) _ (by simp -implicitDefEqProofs) trivial ?_
  intro i hi _
  by_cases hlt : i < n
  · have hw := wrap_i64 (n := (i : Int) + 1) (by omega) (by omega)
    have hw2 := wrap_i64 (n := (k : Int) + i + 1) (by omega) (by omega)
    have ea : (k : Int) + ((i : Int) + 1) = k + i + 1 := by omega
    have e1 := fun K => mtx_call (k + i) (by omega) (by omega) K
    simp only [Int.natCast_add, Tag_eq] at e1
    have hg : ∀ h, (mkS k n)[i]'h = mtx (k + i) := fun h => by simp [mkS]
    simp -implicitDefEqProofs [hlt, hw, hw2, hg, e1, ea, Next]
  · have : i = n := by omega
    subst this
    simp -implicitDefEqProofs
theorem heldPutS_call (q : Bool) (k n : Nat) (k0 : 0 < k) (k1 : k + 2 * n ≤ 16777216) (K : Out → Prop) :
    Call prog 230 ⟨[.view q 2 ((mkP k n).map pgV), .i .i64 k], [], []⟩ K = K (.i .i64 ((k + 2 * n : Nat) : Int), [], []) := by
  refine Call_det ?_ K
  rw [Call_sp (p := prog) (f := 230) rfl _ _ _ rfl (by decide)]
  simp -implicitDefEqProofs
  refine WL_for (fun i => ⟨sp 32 [(0, .view q 2 ((mkP k n).map pgV)), (1, .i .i64 ((k + 2 * i : Nat) : Int)), (5, .i .i64 i)], [], []⟩) n (fun _ => True) _ (by simp -implicitDefEqProofs) trivial ?_
  intro i hi _
  by_cases hlt : i < n
  · have hw := wrap_i64 (n := (i : Int) + 1) (by omega) (by omega)
    have hw2 := wrap_i64 (n := (k : Int) + 2 * i + 1) (by omega) (by omega)
    have hw3 := wrap_i64 (n := (k : Int) + 2 * i + 1 + 1) (by omega) (by omega)
    have ea : (k : Int) + 2 * ((i : Int) + 1) = k + 2 * i + 1 + 1 := by omega
    have e1 := fun K => mtx_call (k + 2 * i + 1) (by omega) (by omega) K
    simp only [Int.natCast_add, Int.natCast_mul, Int.cast_ofNat_Int, Int.natCast_one, Tag_eq] at e1
    have hg : ∀ h, (mkP k n)[i]'h = ⟨(k : Int) + 2 * i, mtx (k + 2 * i + 1)⟩ := fun h => by simp [mkP]
    simp -implicitDefEqProofs [hlt, hw, hw2, hw3, hg, pgV, e1, ea, Next]
  · have : i = n := by omega
    subst this
    simp -implicitDefEqProofs
theorem heldPageS_call (q : Bool) (k n : Nat) (k0 : 0 < k) (k1 : k + 2 * n ≤ 16777216) (K : Out → Prop) :
    Call prog 205 ⟨[.view q 2 ((mkP k n).map pgV), .i .i64 k], [], []⟩ K = K (.i .i64 ((k + 2 * n : Nat) : Int), [], []) := by
  refine Call_det ?_ K
  rw [Call_sp (p := prog) (f := 205) rfl _ _ _ rfl (by decide)]
  simp -implicitDefEqProofs
  refine WL_for (fun i => ⟨sp 32 [(0, .view q 2 ((mkP k n).map pgV)), (1, .i .i64 ((k + 2 * i : Nat) : Int)), (5, .i .i64 i)], [], []⟩) n (fun _ => True) _ (by simp -implicitDefEqProofs) trivial ?_
  intro i hi _
  by_cases hlt : i < n
  · have hw := wrap_i64 (n := (i : Int) + 1) (by omega) (by omega)
    have hw2 := wrap_i64 (n := (k : Int) + 2 * i + 1) (by omega) (by omega)
    have hw3 := wrap_i64 (n := (k : Int) + 2 * i + 1 + 1) (by omega) (by omega)
    have ea : (k : Int) + 2 * ((i : Int) + 1) = k + 2 * i + 1 + 1 := by omega
    have e1 := fun K => mtx_call (k + 2 * i + 1) (by omega) (by omega) K
    simp only [Int.natCast_add, Int.natCast_mul, Int.cast_ofNat_Int, Int.natCast_one, Tag_eq] at e1
    have hg : ∀ h, (mkP k n)[i]'h = ⟨(k : Int) + 2 * i, mtx (k + 2 * i + 1)⟩ := fun h => by simp [mkP]
    simp -implicitDefEqProofs [hlt, hw, hw2, hw3, hg, pgV, e1, ea, Next]
  · have : i = n := by omega
    subst this
    simp -implicitDefEqProofs
end Go.VS
end
section
namespace Go.VS
set_option linter.unusedSimpArgs false
set_option maxRecDepth 8000
attribute [-simp] isLeaf

/-- A pager with marks from k on. -/
def mkPr (p : Pr) (k : Nat) : Pr :=
  { p with disk := { p.disk with blocks := mkS k p.disk.blocks.length, pend := mkP (k + p.disk.blocks.length) p.disk.pend.length },
           logged := mkP (k + p.disk.blocks.length + 2 * p.disk.pend.length) p.logged.length,
           dirty := mkP (k + p.disk.blocks.length + 2 * p.disk.pend.length + 2 * p.logged.length) p.dirty.length }
def cntPr (p : Pr) : Nat := p.disk.blocks.length + 2 * p.disk.pend.length + 2 * p.logged.length + 2 * p.dirty.length
theorem pgs_ex (l : List Pg) : ∀ x, x ∈ l.map pgV → ∃ b s, x = .agg [.i .i64 b, .s s] := fun x hx => by
  obtain ⟨y, _, rfl⟩ := List.mem_map.1 hx
  exact ⟨_, _, rfl⟩
theorem strs_ex (l : List Bs) : ∀ x, x ∈ l.map V.s → ∃ s, x = .s s := fun x hx => by
  obtain ⟨y, _, rfl⟩ := List.mem_map.1 hx
  exact ⟨_, rfl⟩
theorem markDisk_call (d : Dk) (k : Nat) (k0 : 0 < k) (k1 : k + d.blocks.length + 2 * d.pend.length ≤ 16777216) (K : Out → Prop) :
    Call prog 1029 ⟨[.agg (dkW d), .i .i64 k], [], dkRows d⟩ K = K (.i .i64 ((k + d.blocks.length + 2 * d.pend.length : Nat) : Int), [], [.row 1 false ((mkS k d.blocks.length).map .s), .row 2 false ((mkP (k + d.blocks.length) d.pend.length).map pgV)]) := by
  have e1 := fun K => markStringS_call (d.blocks.map .s) k k0 (by simp; omega) (strs_ex _) K
  have e2 := fun K => markPutS_call (d.pend.map pgV) (k + d.blocks.length) (by omega) (by simp; omega) (pgs_ex _) K
  simp only [List.length_map, Nat.one_mul, Tag_eq] at e1 e2
  refine Call_det ?_ K
  rw [Call_pin_sp (p := prog) (f := 1029) rfl _ _ _ rfl (by decide) rfl]
  obtain ⟨bl, pe, fu, off⟩ := d
  simp only [Tag_eq] at e1 e2
  generalize (k + bl.length + 2 * pe.length) = j at *
  generalize (k + bl.length) = i at *
  simp -implicitDefEqProofs [dkW, dkRows, e1, e2]
@[simp] theorem range_4 : List.range 4 = [0, 1, 2, 3] := rfl
theorem markPager_call (p : Pr) (k : Nat) (k0 : 0 < k) (k1 : k + cntPr p ≤ 16777216) (K : Out → Prop) :
    Call prog 1008 ⟨[.agg (pmC 0 p), .i .i64 k], [], pmR p⟩ K = K (.i .i64 ((k + cntPr p : Nat) : Int), [], pmR (mkPr p k)) := by
  unfold cntPr at *
  have e1 := fun K => markDisk_call p.disk k k0 (by omega) K
  have e2 := fun K => markPageS_call (p.logged.map pgV) (k + p.disk.blocks.length + 2 * p.disk.pend.length) (by omega) (by simp; omega) (pgs_ex _) K
  have e3 := fun K => markPageS_call (p.dirty.map pgV) (k + p.disk.blocks.length + 2 * p.disk.pend.length + 2 * p.logged.length) (by omega) (by simp; omega) (pgs_ex _) K
  simp only [List.length_map, Tag_eq] at e1 e2 e3
  refine Call_det ?_ K
  rw [Call_pin_sp (p := prog) (f := 1008) rfl _ _ _ rfl (by decide) rfl]
  obtain ⟨⟨bl, pe, fu, off⟩, ⟨a, b, c, d⟩, sq, at_, lo, di⟩ := p
  simp only [dkW, dkRows, mkPr, Tag_eq, ← Nat.add_assoc] at e1 e2 e3 ⊢
  generalize h4 : (k + bl.length + 2 * pe.length + 2 * lo.length + 2 * di.length) = j4 at *
  generalize h3 : (k + bl.length + 2 * pe.length + 2 * lo.length) = j3 at *
  generalize h2 : (k + bl.length + 2 * pe.length) = j at *
  generalize h1 : (k + bl.length) = i at *
  simp -implicitDefEqProofs [pmC, pmR, e1, e2, e3]
  refine ⟨by omega, ?_⟩
  have g3 : j + 2 * lo.length = j3 := by omega
  have g2 : i + 2 * pe.length = j := by omega
  have g1 : k + bl.length = i := by omega
  simp only [mkPr, g3, g2, g1, and_self]
theorem markDisk_nil (k : Nat) (K : Out → Prop) : Call prog 1029 ⟨[.agg [.nil, .nil, .i .i64 0, .b false], .i .i64 k], [], []⟩ K = K (.i .i64 k, [], []) := by
  have e1 := fun K => markStringS_nil k K
  have e2 := fun K => markPutS_nil k K
  refine Call_det ?_ K
  rw [Call_pin_sp (p := prog) (f := 1029) rfl _ _ _ rfl (by decide) rfl]
  simp -implicitDefEqProofs [e1, e2]
theorem markPager_nil (k : Nat) (K : Out → Prop) : Call prog 1008 ⟨[.agg prZ, .i .i64 k], [], []⟩ K = K (.i .i64 k, [], []) := by
  have e1 := fun K => markDisk_nil k K
  have e2 := fun K => markPageS_nil k K
  refine Call_det ?_ K
  rw [Call_pin_sp (p := prog) (f := 1008) rfl _ _ _ rfl (by decide) rfl]
  simp -implicitDefEqProofs [prZ, e1, e2]

/-! ### Marks read -/
theorem heldDisk_call (q : Bool) (fu : Int) (off : Bool) (k n m : Nat) (k0 : 0 < k) (k1 : k + n + 2 * m ≤ 16777216) (K : Out → Prop) :
    Call prog 204 ⟨[.agg [.view q 1 ((mkS k n).map .s), .view q 2 ((mkP (k + n) m).map pgV), .i .i64 fu, .b off], .i .i64 k], [], []⟩ K = K (.i .i64 ((k + n + 2 * m : Nat) : Int), [], []) := by
  have e1 := fun K => heldStringS_call q k n k0 (by omega) K
  have e2 := fun K => heldPutS_call q (k + n) m (by omega) (by omega) K
  refine Call_det ?_ K
  rw [Call_sp (p := prog) (f := 204) rfl _ _ _ rfl (by decide)]
  generalize (k + n + 2 * m) = j at *
  generalize (k + n) = i at *
  have c1 : ¬ (i : Int) < 0 := by omega
  have c2 : ¬ (j : Int) < 0 := by omega
  simp -implicitDefEqProofs [e1, e2, c1, c2]
theorem heldPager_call (q : Bool) (p : Pr) (k : Nat) (k0 : 0 < k) (k1 : k + cntPr p ≤ 16777216) (K : Out → Prop) :
    Call prog 189 ⟨[.agg (prC q (mkPr p k)), .i .i64 k], [], []⟩ K = K (.i .i64 ((k + cntPr p : Nat) : Int), [], []) := by
  unfold cntPr at *
  have e1 := fun K => heldDisk_call q p.disk.fuse p.disk.off k p.disk.blocks.length p.disk.pend.length k0 (by omega) K
  have e2 := fun K => heldPageS_call q (k + p.disk.blocks.length + 2 * p.disk.pend.length) p.logged.length (by omega) (by omega) K
  have e3 := fun K => heldPageS_call q (k + p.disk.blocks.length + 2 * p.disk.pend.length + 2 * p.logged.length) p.dirty.length (by omega) (by omega) K
  refine Call_det ?_ K
  rw [Call_sp (p := prog) (f := 189) rfl _ _ _ rfl (by decide)]
  obtain ⟨⟨bl, pe, fu, off⟩, ⟨a, b, c, d⟩, sq, at_, lo, di⟩ := p
  simp only [mkPr, Tag_eq, ← Nat.add_assoc] at e1 e2 e3 ⊢
  generalize (k + bl.length + 2 * pe.length + 2 * lo.length + 2 * di.length) = j4 at *
  generalize (k + bl.length + 2 * pe.length + 2 * lo.length) = j3 at *
  generalize (k + bl.length + 2 * pe.length) = j at *
  generalize (k + bl.length) = i at *
  have c1 : ¬ (j : Int) < 0 := by omega
  have c2 : ¬ (j3 : Int) < 0 := by omega
  have c3 : ¬ (j4 : Int) < 0 := by omega
  simp -implicitDefEqProofs [prC, e1, e2, e3, c1, c2, c3]
theorem heldPager_nil (k : Nat) (k0 : 0 < k) (k1 : k ≤ 16777216) (K : Out → Prop) : Call prog 189 ⟨[.agg prZ, .i .i64 k], [], []⟩ K = K (.i .i64 k, [], []) := by
  have e1 : ∀ K : Out → Prop, Call prog 229 ⟨[.view true 1 [], .i .i64 k], [], []⟩ K = K (.i .i64 k, [], []) := fun K => heldStringS_call true k 0 k0 (by omega) K
  have e2 : ∀ K : Out → Prop, Call prog 230 ⟨[.view true 2 [], .i .i64 k], [], []⟩ K = K (.i .i64 k, [], []) := fun K => heldPutS_call true k 0 k0 (by omega) K
  have e3 : ∀ K : Out → Prop, Call prog 205 ⟨[.view true 2 [], .i .i64 k], [], []⟩ K = K (.i .i64 k, [], []) := fun K => heldPageS_call true k 0 k0 (by omega) K
  have c1 : ¬ (k : Int) < 0 := by omega
  have e4 : ∀ K : Out → Prop, Call prog 204 ⟨[.agg [.nil, .nil, .i .i64 0, .b false], .i .i64 k], [], []⟩ K = K (.i .i64 k, [], []) := by
    intro K
    refine Call_det ?_ K
    rw [Call_sp (p := prog) (f := 204) rfl _ _ _ rfl (by decide)]
    simp -implicitDefEqProofs [e1, e2, c1]
  refine Call_det ?_ K
  rw [Call_sp (p := prog) (f := 189) rfl _ _ _ rfl (by decide)]
  simp -implicitDefEqProofs [prZ, e3, e4, c1]
theorem eqPager_nil (K : Out → Prop) : Call prog 4 ⟨[.agg prZ, .agg prZ], [], []⟩ K = K (.b true, [], []) := by
  have e1 : ∀ K : Out → Prop, Call prog 56 ⟨[.view true 1 [], .view true 1 []], [], []⟩ K = K (.b true, [], []) := fun K => eqStringS_call true true [] (by unfold lim; simp) K
  have e2 : ∀ K : Out → Prop, Call prog 57 ⟨[.view true 2 [], .view true 2 []], [], []⟩ K = K (.b true, [], []) := fun K => eqPutS_call true true [] (by unfold lim; simp) K
  have e3 : ∀ K : Out → Prop, Call prog 26 ⟨[.view true 2 [], .view true 2 []], [], []⟩ K = K (.b true, [], []) := fun K => eqPageS_call true true [] (by unfold lim; simp) K
  have e4 : ∀ K : Out → Prop, Call prog 24 ⟨[.agg [.nil, .nil, .i .i64 0, .b false], .agg [.nil, .nil, .i .i64 0, .b false]], [], []⟩ K = K (.b true, [], []) := by
    intro K
    refine Call_det ?_ K
    rw [Call_sp (p := prog) (f := 24) rfl _ _ _ rfl (by decide)]
    simp -implicitDefEqProofs [e1, e2]
  have e5 : ∀ K : Out → Prop, Call prog 25 ⟨[.agg [.i .i64 0, .i .i64 0, .i .i64 0, .i .i64 0], .agg [.i .i64 0, .i .i64 0, .i .i64 0, .i .i64 0]], [], []⟩ K = K (.b true, [], []) := fun K => eqSuper_call ⟨0, 0, 0, 0⟩ K
  refine Call_det ?_ K
  rw [Call_sp (p := prog) (f := 4) rfl _ _ _ rfl (by decide)]
  simp -implicitDefEqProofs [prZ, e3, e4, e5]
end Go.VS
end
section
namespace Go.VS
set_option linter.unusedSimpArgs false
set_option maxRecDepth 8000
attribute [-simp] isLeaf

@[simp] theorem lendA_slc3 {s : St} {xp : Xp} (n : Bool) (xs : List V) : lendA s xp 3 (slc n 3 xs) = .view true 3 xs := by
  rcases slc_cases n 3 xs with ⟨h, h2⟩ | h <;> rw [h]
  · rw [h2]; rfl
  · rfl
/-- A header from outside. -/
def hdR (n : Bool) (h : Hd) : List V := [.i .i64 h.kind, .i .i64 h.refs, slc n 3 (h.msgs.map msV)]
def hdW (h : Hd) : List V := [.i .i64 h.kind, .i .i64 h.refs, .sl 0 0 h.msgs.length false]
def sumM (l : List Ms) : Nat := (l.map fun p => p.data.length).sum
def totM (l : List Ms) : Nat := l.length + sumM l
theorem sumM_succ {l : List Ms} {i : Nat} (h : i < l.length) : sumM (l.take (i + 1)) = sumM (l.take i) + l[i].data.length := by
  unfold sumM
  rw [← List.take_append_getElem h, List.map_append, List.sum_append]; simp
theorem sumM_take {l : List Ms} (i : Nat) : sumM (l.take i) ≤ sumM l := by
  unfold sumM
  conv => rhs; rw [← List.take_append_drop i l, List.map_append, List.sum_append]
  omega
structure Hd.big (h : Hd) : Prop where
  m : h.msgs.length < Go.VS.big
  d : ∀ s, s ∈ h.msgs → s.data.length < Go.VS.big
theorem szMessage_call (p : Ms) (k : Int) (hs : p.data.length < big) (k0 : 0 ≤ k) (k1 : k ≤ 1048576) (K : Out → Prop) :
    Call prog 213 ⟨[msV p, .i .i64 k], [], []⟩ K = K (.i .i64 (minus k p.data.length), [], []) := by
  refine Call_det ?_ K
  rw [Call_sp (p := prog) (f := 213) rfl _ _ _ rfl (by decide)]
  unfold big at hs
  have w0 := wrap_i64 (n := k - p.data.length) (by omega) (by omega)
  unfold minus
  by_cases c0 : (p.data.length : Int) ≤ k
  · have c1 : ¬ k - p.data.length < 0 := by omega
    simp -implicitDefEqProofs [msV, w0, c0, c1]
  · have c1 : k - p.data.length < 0 := by omega
    simp -implicitDefEqProofs [msV, w0, c0, c1]
theorem szMessageS_call (q : Bool) (l : List Ms) (k : Int) (hl : l.length < big) (hs : ∀ s, s ∈ l → s.data.length < big) (k0 : 0 ≤ k) (k1 : k ≤ 1048576) (K : Out → Prop) :
    Call prog 196 ⟨[.view q 3 (l.map msV), .i .i64 k], [], []⟩ K = K (.i .i64 (minus k (totM l)), [], []) := by
  refine Call_det ?_ K
  rw [Call_sp (p := prog) (f := 196) rfl _ _ _ rfl (by decide)]
  have hl' := hl
  have hs' := hs
  unfold big at hl hs
  have w0 := wrap_i64 (n := k - l.length) (by omega) (by omega)
  by_cases c0 : k - l.length < 0
  · have : minus k (totM l) = -1 := by unfold minus totM; rw [if_neg (by push_cast; omega)]
    rw [this]
    simp -implicitDefEqProofs [w0, c0]
  · simp -implicitDefEqProofs [w0, c0]
    refine WL_for (fun i => ⟨sp 27 [(0, .view q 3 (l.map msV)), (1, .i .i64 (k - l.length - sumM (l.take i))), (5, .i .i64 i)], [], []⟩) l.length (fun i => (0 : Int) ≤ k - l.length - sumM (l.take i)) _ (by simp -implicitDefEqProofs [sumM]) (by simp [sumM]; omega) ?_
    intro i hi hP
    by_cases hlt : i < l.length
    · have hw := wrap_i64 (n := (i : Int) + 1) (by omega) (by omega)
      have hb := hs _ (List.getElem_mem hlt)
      have hx := sumM_succ hlt
      have ht := sumM_take (l := l) (i + 1)
      have e1 := fun K => szMessage_call l[i] (k - l.length - sumM (l.take i)) (hs' _ (List.getElem_mem hlt)) hP (by omega) K
      simp only [msV] at e1
      have hx2 : k - l.length - (sumM (l.take (i + 1)) : Int) = k - l.length - sumM (l.take i) - l[i].data.length := by omega
      by_cases c1 : (l[i].data.length : Int) ≤ k - l.length - sumM (l.take i)
      · have e2 : minus (k - l.length - sumM (l.take i)) l[i].data.length = k - l.length - sumM (l.take i) - l[i].data.length := if_pos c1
        rw [e2] at e1
        have c2 : 0 ≤ k - l.length - sumM (l.take i) - l[i].data.length := by omega
        have c3 : ¬ k - l.length - sumM (l.take i) - l[i].data.length < 0 := by omega
        simp -implicitDefEqProofs [hlt, hw, msV, e1, c1, c2, c3, hx2, Next]
      · have e2 : minus (k - l.length - sumM (l.take i)) l[i].data.length = -1 := if_neg c1
        rw [e2] at e1
        have : minus k (totM l) = -1 := by unfold minus totM; rw [if_neg (by push_cast; omega)]
        rw [this]
        simp -implicitDefEqProofs [hlt, hw, msV, e1]
    · have : i = l.length := by omega
      subst this
      rw [List.take_length] at hP ⊢
      have : minus k (totM l) = k - l.length - sumM l := by unfold minus totM; rw [if_pos (by push_cast; omega)]; push_cast; omega
      rw [this]
      simp -implicitDefEqProofs
theorem szHeader_call (n : Bool) (h : Hd) (hb : h.big) (k : Int) (k0 : 0 ≤ k) (k1 : k ≤ 1048576) (K : Out → Prop) :
    Call prog 183 ⟨[.agg (hdR n h), .i .i64 k], [], []⟩ K = K (.i .i64 (minus k (totM h.msgs)), [], []) := by
  refine Call_det ?_ K
  rw [Call_sp (p := prog) (f := 183) rfl _ _ _ rfl (by decide)]
  have e1 := fun K => szMessageS_call true h.msgs k hb.m hb.d k0 k1 K
  by_cases c : minus k (totM h.msgs) < 0
  · have hm := minus_lt c
    rw [hm] at e1 ⊢
    simp -implicitDefEqProofs [hdR, e1]
  · simp -implicitDefEqProofs [hdR, e1, c]
theorem toMessage_call (p : Ms) (K : Out → Prop) : Call prog 220 ⟨[msV p], [], []⟩ K = K (msV p, [], []) := by
  refine Call_det ?_ K
  rw [Call_sp (p := prog) (f := 220) rfl _ _ _ rfl (by decide)]
  simp -implicitDefEqProofs [msV]
theorem toMessageS_call (q : Bool) (l : List Ms) (hl : l.length ≤ lim) (K : Out → Prop) : Call prog 199 ⟨[.view q 3 (l.map msV)], [], []⟩ K = K (.sl 0 0 l.length false, [], [.row 3 false (l.map msV)]) := by
  refine Call_det ?_ K
  rw [Call_sp (p := prog) (f := 199) rfl _ _ _ rfl (by decide)]
  have hl' := hl
  unfold lim at hl'
  simp -implicitDefEqProofs [hl]
  refine WL_for (fun i => ⟨sp 23 [(0, .view q 3 (l.map msV)), (3, .sl 0 0 l.length false), (4, .i .i64 i)], [], [.row 3 false ((l.map msV).take i ++ List.replicate (l.length - i) (V.agg [.i .i64 0, .i .i64 0, .s []]))]⟩) l.length (fun _ => True) _ (by simp -implicitDefEqProofs) trivial ?_
  intro i hi _
  by_cases hlt : i < l.length
  · have hw := wrap_i64 (n := (i : Int) + 1) (by omega) (by omega)
    have h1 := fill_get (xs := l.map msV) (d := V.agg [.i .i64 0, .i .i64 0, .s []]) (e := V.no) hlt (by simp)
    have h2 := fill_set (xs := l.map msV) (d := V.agg [.i .i64 0, .i .i64 0, .s []]) (x := msV l[i]) hlt (by simp) (by simp [hlt])
    have e1 := fun K => toMessage_call l[i] K
    simp only [msV] at e1
    simp only [msV] at h2
    simp -implicitDefEqProofs [hlt, hw, h1, h2, e1, msV, Next]
  · have : i = l.length := by omega
    subst this
    have ht : (l.map msV).take l.length = l.map msV := by rw [List.take_of_length_le (by simp)]
    simp -implicitDefEqProofs [ht]
theorem toHeader_call (n : Bool) (h : Hd) (hl : h.msgs.length ≤ lim) (K : Out → Prop) : Call prog 184 ⟨[.agg (hdR n h)], [], []⟩ K = K (.agg (hdW h), [], [.row 3 false (h.msgs.map msV)]) := by
  refine Call_det ?_ K
  rw [Call_sp (p := prog) (f := 184) rfl _ _ _ rfl (by decide)]
  have e1 := fun K => toMessageS_call true h.msgs hl K
  simp -implicitDefEqProofs [hdR, hdW, e1]
theorem eqMessage_call (p : Ms) (K : Out → Prop) : Call prog 228 ⟨[msV p, msV p], [], []⟩ K = K (.b true, [], []) := by
  refine Call_det ?_ K
  rw [Call_sp (p := prog) (f := 228) rfl _ _ _ rfl (by decide)]
  simp -implicitDefEqProofs [msV]
theorem eqMessageS_call (q q' : Bool) (l : List Ms) (hl : l.length ≤ lim) (K : Out → Prop) : Call prog 202 ⟨[.view q 3 (l.map msV), .view q' 3 (l.map msV)], [], []⟩ K = K (.b true, [], []) := by
  refine Call_det ?_ K
  rw [Call_sp (p := prog) (f := 202) rfl _ _ _ rfl (by decide)]
  unfold lim at hl
  simp -implicitDefEqProofs
  refine WL_for (fun i => ⟨sp 27 [(0, .view q 3 (l.map msV)), (1, .view q' 3 (l.map msV)), (5, .i .i64 i)], [], []⟩) l.length (fun _ => True) _ (by simp -implicitDefEqProofs) trivial ?_
  intro i hi _
  by_cases hlt : i < l.length
  · have hw := wrap_i64 (n := (i : Int) + 1) (by omega) (by omega)
    have e1 := fun K => eqMessage_call l[i] K
    simp only [msV] at e1
    simp -implicitDefEqProofs [hlt, hw, e1, msV, Next]
  · simp -implicitDefEqProofs [hlt]
theorem eqHeader_call (q q' : Bool) (h : Hd) (hl : h.msgs.length ≤ lim) (K : Out → Prop) : Call prog 187 ⟨[.agg (hdC q h), .agg (hdC q' h)], [], []⟩ K = K (.b true, [], []) := by
  refine Call_det ?_ K
  rw [Call_sp (p := prog) (f := 187) rfl _ _ _ rfl (by decide)]
  have e1 := fun K => eqMessageS_call q q' h.msgs hl K
  simp -implicitDefEqProofs [hdC, e1]
theorem mss_ex (l : List Ms) : ∀ x, x ∈ l.map msV → ∃ b c s, x = .agg [.i .i64 b, .i .i64 c, .s s] := fun x hx => by
  obtain ⟨y, _, rfl⟩ := List.mem_map.1 hx
  exact ⟨_, _, _, rfl⟩
theorem markHeader_call (h : Hd) (k : Nat) (k0 : 0 < k) (k1 : k + 3 * h.msgs.length ≤ 16777216) (K : Out → Prop) :
    Call prog 1188 ⟨[.agg (hdW h), .i .i64 k], [], [.row 3 false (h.msgs.map msV)]⟩ K = K (.i .i64 ((k + 3 * h.msgs.length : Nat) : Int), [], [.row 3 false ((mkM k h.msgs.length).map msV)]) := by
  have e1 := fun K => markMessageS_call (h.msgs.map msV) k k0 (by simpa using k1) (mss_ex _) K
  simp only [List.length_map, Tag_eq] at e1
  refine Call_det ?_ K
  rw [Call_pin_sp (p := prog) (f := 1188) rfl _ _ _ rfl (by decide) rfl]
  obtain ⟨a, b, ms⟩ := h
  simp only [Tag_eq] at e1 ⊢
  generalize (k + 3 * ms.length) = j at *
  simp -implicitDefEqProofs [hdW, e1]
end Go.VS
end
section
namespace Go.VS
set_option linter.unusedSimpArgs false
set_option maxRecDepth 8000
attribute [-simp] isLeaf

theorem Pr.sm_of {p : Pr} (h : (p.tot : Int) ≤ 1048576) : p.sm ∧ p.disk.blocks.length + p.disk.pend.length + p.logged.length + p.dirty.length ≤ 1048576 := by
  unfold Pr.tot Dk.tot totS totP at h
  constructor
  · constructor <;> (unfold lim; omega)
  · omega
theorem cntPr_le {p : Pr} (h : p.Ok) : cntPr p ≤ 4096 := by
  have := h.nb
  have := h.np
  have := h.lg.1
  have := h.dt.1
  unfold cntPr; omega
set_option maxHeartbeats 8000000 in
theorem writeHeaderLaw (n : N4) (p : Pr) (h : p.big) (k : Int) (n2 : Bool) (hh : Hd) (hb : hh.big) (K : Out → Prop) :
    Call prog 400 ⟨[.agg (prR n p), .i .i64 k, .agg (hdR n2 hh)], [], []⟩ K = K (.b true, [], []) := by
  refine Call_det ?_ K
  rw [Call_sp (p := prog) (f := 400) rfl _ _ _ rfl (by decide)]
  have e0 := fun K => szPager_call n p h 1048576 (by decide) (by decide) K
  by_cases c0 : (p.tot : Int) ≤ 1048576
  · obtain ⟨sm, hl⟩ := Pr.sm_of c0
    have m0 : minus 1048576 p.tot = 1048576 - p.tot := if_pos c0
    rw [m0] at e0
    have c1 : ¬ (1048576 : Int) - p.tot < 0 := by omega
    have s0 := fun K => szHeader_call n2 hh hb (1048576 - p.tot) (by omega) (by omega) K
    by_cases c2 : (totM hh.msgs : Int) ≤ 1048576 - p.tot
    · have m1 : minus (1048576 - p.tot) (totM hh.msgs) = 1048576 - p.tot - totM hh.msgs := if_pos c2
      rw [m1] at s0
      have c3 : ¬ (1048576 : Int) - p.tot - totM hh.msgs < 0 := by omega
      have hml : hh.msgs.length ≤ 1048576 := by unfold totM at c2; omega
      have hml2 : hh.msgs.length ≤ lim := by unfold lim; omega
      have e1 := fun K => toPager_call n p sm K
      have t1 := fun K => toHeader_call n2 hh hml2 K
      have e2 := fun K => sWriteHeader_call false p sm k false hh hml2 K
      have e3 := fun K => WriteHeader_call false p sm k false hh hml2 K
      have e4 := fun K => eqPager_call false false p sm K
      have t4 := fun K => eqHeader_call false false hh hml2 K
      have k0 := fun K => markPager_call p 1 (by omega) (by unfold cntPr; omega) K
      have kc : cntPr p ≤ 4194304 := by unfold cntPr; omega
      have k1 := fun K => markHeader_call hh (1 + cntPr p) (by omega) (by omega) K
      have d1 : ¬ ((1 + cntPr p + 3 * hh.msgs.length : Nat) : Int) < 0 := by omega
      generalize 1 + cntPr p + 3 * hh.msgs.length = j1 at *
      generalize 1 + cntPr p = j0 at *
      have hO : (wrOut p k hh).1 = 0 → (wrOut p k hh).2.Ow := by
        unfold wrOut
        split
        · rename_i hc
          exact fun _ => ((Pr.Ow.of hc.1).wrH k hh).1
        · intro e; cases e
      unfold prO at e2 e3
      generalize wrOut p k hh = R at *
      obtain ⟨c, x⟩ := R
      simp only at e2 e3 hO
      by_cases hc : c = 0
      · subst hc
        have ho := hO rfl
        have hcx := cntPr_le ho.ok
        have e6 := fun K => eqPager_call false false x ho.ok.sm K
        have e7 := fun K => markPager_call x 1 (by omega) (by omega) K
        have e8 := fun K => heldPager_call false x 1 (by omega) (by omega) K
        have d2 : ¬ ((1 + cntPr x : Nat) : Int) < 0 := by omega
        generalize 1 + cntPr x = j2 at *
        generalize hx2 : mkPr x 1 = y at *
        have hy1 : y.disk.blocks.length = x.disk.blocks.length ∧ y.disk.pend.length = x.disk.pend.length ∧ y.logged.length = x.logged.length ∧ y.dirty.length = x.dirty.length ∧ y.disk.fuse = x.disk.fuse ∧ y.disk.off = x.disk.off ∧ y.su = x.su ∧ y.seq = x.seq ∧ y.at_ = x.at_ := by
          rw [← hx2]; simp [mkPr]
        obtain ⟨y1, y2, y3, y4, y5, y6, y7, y8, y9⟩ := hy1
        have t5 : List.take x.disk.blocks.length (List.map V.s y.disk.blocks) = List.map V.s y.disk.blocks := List.take_of_length_le (by simp [y1])
        have t6 : List.take x.disk.pend.length (List.map pgV y.disk.pend) = List.map pgV y.disk.pend := List.take_of_length_le (by simp [y2])
        have t7 : List.take x.logged.length (List.map pgV y.logged) = List.map pgV y.logged := List.take_of_length_le (by simp [y3])
        have t8 : List.take x.dirty.length (List.map pgV y.dirty) = List.map pgV y.dirty := List.take_of_length_le (by simp [y4])
        simp only [prR, prW, prRows, prC, pmC, pmR, hdC, hdR, hdW, Tag_eq, if_true, Int.natCast_one, Nat.zero_add, y5, y6, y7, y8, y9] at e0 e1 e2 e3 e4 e6 e7 e8 s0 t1 t4 k0 k1
        simp -implicitDefEqProofs [prR, hdR, e0, e1, e2, e3, e4, e6, e7, e8, s0, t1, t4, t5, t6, t7, t8, k0, k1, c1, c3, d1, d2]
      · have e6 := fun K => eqPager_nil K
        have e7 := fun K => markPager_nil 1 K
        have e8 := fun K => heldPager_nil 1 (by omega) (by omega) K
        simp only [prR, prW, prRows, prC, prZ, pmC, pmR, hdC, hdR, hdW, Tag_eq, hc, if_false, Int.natCast_one, Nat.zero_add] at e0 e1 e2 e3 e4 e6 e7 e8 s0 t1 t4 k0 k1
        simp -implicitDefEqProofs [prR, hdR, e0, e1, e2, e3, e4, e6, e7, e8, s0, t1, t4, k0, k1, c1, c3, d1]
    · have m1 : minus (1048576 - p.tot) (totM hh.msgs) = -1 := if_neg c2
      rw [m1] at s0
      simp only [prR, hdR, Tag_eq] at e0 s0
      simp -implicitDefEqProofs [prR, hdR, e0, s0, c1]
  · have m0 : minus 1048576 p.tot = -1 := if_neg c0
    rw [m0] at e0
    simp only [prR, Tag_eq] at e0
    simp -implicitDefEqProofs [prR, hdR, e0]
end Go.VS
end
