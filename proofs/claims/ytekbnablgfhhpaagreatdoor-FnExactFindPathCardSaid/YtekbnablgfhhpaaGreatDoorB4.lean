/-
  What the functions of the program answer (second part): links, groups, the walk.
-/
import Derived.Test.YtekbnablgfhhpaaGreatDoorB3
set_option linter.all false
section
namespace Go.VS
set_option linter.unusedSimpArgs false

/-- What is left to do at place i of the text s, when the piece began at k. -/
def left (s : Bs) (i k : Nat) (out : List Bs) : Option (List Bs) := if i ≤ s.length then scanP ((s.take i).drop k) (s.drop i) out else some out
theorem left_out {s : Bs} {i k : Nat} {out : List Bs} (h : ¬ i ≤ s.length) : left s i k out = some out := if_neg h
theorem left_end {s : Bs} {k : Nat} {out : List Bs} : left s s.length k out = if isName (s.drop k) = true then some (out ++ [s.drop k]) else none := by
  unfold left; rw [if_pos (Nat.le_refl _), List.take_length, List.drop_length]; rfl
theorem left_name {s : Bs} {i k : Nat} {out : List Bs} (h : i < s.length) (hc : s[i] = 47) : left s i k out = if isName ((s.take i).drop k) = true then left s (i + 1) (i + 1) (out ++ [(s.take i).drop k]) else none := by
  rw [left, if_pos (Nat.le_of_lt h), List.drop_eq_getElem_cons h, scanP, if_pos hc]
  unfold left; rw [if_pos (show i + 1 ≤ s.length from h), List.drop_eq_nil_of_le (as := s.take (i + 1)) (by rw [List.length_take]; omega)]
theorem left_step {s : Bs} {i k : Nat} {out : List Bs} (h : i < s.length) (hk : k ≤ i) (hc : ¬ s[i] = 47) : left s i k out = left s (i + 1) k out := by
  unfold left; rw [if_pos (by omega), if_pos (by omega), List.drop_eq_getElem_cons h, scanP, if_neg hc]
  congr 1
  rw [← List.take_append_getElem h, List.drop_append_of_le_length (by rw [List.length_take]; omega)]

theorem u8ne {c d : UInt8} (h : ¬ c = d) : ¬ (c.toNat : Int) = d.toNat := fun e => h (UInt8.toNat_inj.1 (by omega))
set_option maxHeartbeats 1000000 in
theorem l17Split_call (s : Bs) (hs : s.length ≤ lim) (K : Out → Prop) : Call prog 15 ⟨[.s s], [], []⟩ K = K (pathOut false s) := by
  refine Call_det ?_ K
  rw [Call_sp (p := prog) (f := 15) rfl _ _ _ rfl (by decide)]
  by_cases h0 : s = [47]
  · subst h0; simp -implicitDefEqProofs [pathOut, pathOf]
  cases hh : s with
  | nil => simp -implicitDefEqProofs [pathOut, pathOf]
  | cons c t =>
    by_cases h : c = 47
    · have hl : s.length = t.length + 1 := by rw [hh]; rfl
      have hp : pathOf s = match left s 1 1 [] with | some l => if l.length ≤ 6 then some l else none | none => none := by
        unfold pathOf left
        rw [if_neg h0, if_pos (by omega), hh]
        simp only [if_pos h, List.take_succ_cons, List.take_zero, List.drop_succ_cons, List.drop_zero, List.drop_nil]
        rw [scanP_splitB]
        by_cases hq : (splitB 47 t).all isName = true
        · rw [if_pos hq, if_pos hq]
        · rw [if_neg hq, if_neg hq]
      have hz : s[0]? = some 47 := by rw [hh, h]; rfl
      have hz' : ¬ s.length = 0 := by omega
      rw [← hh]
      clear hh
      unfold pathOut
      rw [hp]
      clear hp
      unfold lim at hs
      have z1 : s ≠ [] := by intro e; rw [e] at hl; simp at hl
      have z2 : ∀ hx : 0 < s.length, s[0] = 47 := by
        intro hx
        have := List.getElem?_eq_getElem hx
        rw [this] at hz
        exact Option.some.inj hz
      have z3 : 0 < s.length := by omega
      have z4 := z2 z3
      simp -implicitDefEqProofs [h0, z1, z3, z4]
      refine WL_st (α := Nat × Nat × List Bs) (fun x => ⟨sp 53 [(0, .s s), (4, .sl 0 0 x.2.2.length false), (5, .i .i64 x.2.1), (6, .i .i64 x.1)], [], [.row 1 false (x.2.2.map .s)]⟩)
        (fun x => s.length + 1 - x.1) (fun x => left s 1 1 [] = left s x.1 x.2.1 x.2.2 ∧ x.1 ≤ s.length + 1 ∧ x.2.1 ≤ x.1 ∧ x.2.2.length + 1 ≤ x.2.1) (1, 1, []) _ (by simp -implicitDefEqProofs) ⟨rfl, by simp only; omega, by simp, by simp⟩ ?_
      rintro ⟨i, k, out⟩ ⟨hP, hi, hk, ho⟩
      simp only at hP hi hk ho
      by_cases hlt : i ≤ s.length
      · have w : IntKind.i64.wrap ((i : Int) + 1) = (i + 1 : Nat) := wrap_i64 (by omega) (by omega)
        have c1 : (i : Int) ≤ s.length := by omega
        have c3 : (k : Int) ≤ i := by omega
        have f1 := fun K => sIsName_call ((s.take i).drop k) (by rw [List.length_drop, List.length_take]; unfold lim; omega) K
        by_cases hl2 : i < s.length
        · by_cases hc : s[i] = 47
          · have c2 : (s[i].toNat : Int) = 47 := by rw [hc]; rfl
            rw [left_name hl2 hc] at hP
            cases d : isName ((s.take i).drop k) with
            | false =>
              rw [hP, d]; rw [d] at f1
              simp -implicitDefEqProofs [hlt, hl2, hc, c1, c2, c3, w, f1]
            | true =>
              rw [d] at f1 hP
              have c4 : out.length + 1 ≤ lim := by unfold lim; omega
              simp -implicitDefEqProofs [hlt, hl2, hc, c1, c2, c3, c4, w, f1]
              refine NextS.mk (i + 1, i + 1, out ++ [(s.take i).drop k]) ⟨by rw [hP]; rfl, by simp only; omega, by simp only; omega, by simp; omega⟩ (by simp only; omega) (by simp)
          · have c2 : ¬ (s[i].toNat : Int) = 47 := u8ne hc
            rw [left_step hl2 hk hc] at hP
            simp -implicitDefEqProofs [hlt, hl2, hc, c1, c2, c3, w]
            refine NextS.mk (i + 1, k, out) ⟨hP, by simp only; omega, by simp only; omega, ho⟩ (by simp only; omega) (by simp)
        · have hi' : i = s.length := by omega
          subst hi'
          rw [left_end] at hP
          rw [List.take_length] at f1
          cases d : isName (s.drop k) with
          | false =>
            rw [hP, d]; rw [d] at f1
            simp -implicitDefEqProofs [c1, c3, w, f1]
          | true =>
            rw [d] at f1 hP
            have c4 : out.length + 1 ≤ lim := by unfold lim; omega
            simp -implicitDefEqProofs [c1, c3, c4, w, f1]
            refine NextS.mk (s.length + 1, s.length + 1, out ++ [s.drop k]) ⟨by rw [hP, left_out (by omega)]; rfl, by simp only; omega, by simp only; omega, by simp; omega⟩ (by simp only; omega) (by simp)
      · have c1 : ¬ (i : Int) ≤ s.length := by omega
        rw [hP, left_out hlt]
        by_cases c2 : out.length ≤ 6
        · have c2' : ¬ (6 : Int) < out.length := by omega
          simp -implicitDefEqProofs [hlt, c1, c2, c2']
        · have c2' : (6 : Int) < out.length := by omega
          simp -implicitDefEqProofs [hlt, c1, c2, c2']
    · have c1 : (0 : Int) < (t.length : Int) + 1 := by omega
      have hp : pathOut false (c :: t) = (.tup [.nil, .b false], [], []) := by
        unfold pathOut pathOf; rw [hh] at h0; simp only [if_neg h0, if_neg h]
      rw [hp]
      rw [hh] at h0
      have c2 : ¬ (c.toNat : Int) = 47 := u8ne h
      simp -implicitDefEqProofs [h0, h, c1, c2]
theorem sValidPath_call (s : Bs) (hs : s.length ≤ lim) (K : Out → Prop) : Call prog 132 ⟨[.s s], [], []⟩ K = K (.b (pathOf s).isSome, [], []) := by
  refine Call_det ?_ K
  rw [Call_sp (p := prog) (f := 132) rfl _ _ _ rfl (by decide)]
  have e := fun K => l17Split_call s hs K
  unfold pathOut at e
  cases h : pathOf s with
  | none => simp only [h] at e; simp -implicitDefEqProofs [e]
  | some l => simp only [h] at e; simp at e; simp -implicitDefEqProofs [e]
end Go.VS
end
section
namespace Go.VS
set_option linter.unusedSimpArgs false

structure Lk where
  name : Bs
  block : Int
  target : Bs
  deriving DecidableEq, Inhabited
def lkV (l : Lk) : V := .agg [.s l.name, .i .i64 l.block, .s l.target]
def Lk.ok (l : Lk) : Bool := isName l.name && (if l.target = [] then inI l.block 1 255 else decide (l.block = 0) && (pathOf l.target).isSome)
theorem bl_total : ∀ a b : Bs, (Op.bytesLess a b || decide (a = b)) = !Op.bytesLess b a
  | [], [] => rfl
  | [], b :: bs => rfl
  | a :: as, [] => rfl
  | a :: as, b :: bs => by
    have ih := bl_total as bs
    simp only [Op.bytesLess]
    rcases Nat.lt_trichotomy a.toNat b.toNat with h | h | h
    · have h1 : a < b := h
      have h2 : ¬ b < a := fun x => by have : b.toNat < a.toNat := x; omega
      have h3 : ¬ a = b := fun e => by rw [e] at h; omega
      have h4 : ¬ b = a := fun e => h3 e.symm
      simp [h1, h2, h3, h4]
    · have e := UInt8.toNat_inj.1 h
      subst e
      have h1 : ¬ a < a := fun x => by have : a.toNat < a.toNat := x; omega
      simp only [h1, if_false, List.cons.injEq, true_and]
      simpa using ih
    · have h1 : b < a := h
      have h2 : ¬ a < b := fun x => by have : a.toNat < b.toNat := x; omega
      have h3 : ¬ a = b := fun e => by rw [e] at h; omega
      have h4 : ¬ b = a := fun e => h3 e.symm
      simp [h1, h2, h3, h4]
def nmLe (a b : Bs) : Bool := !Op.bytesLess b a
def lksBad (l : List Lk) (i : Nat) : Bool := if h : i < l.length then !l[i].ok || (decide (0 < i) && nmLe l[i].name (l[i - 1]'(by omega)).name) else true
def lksOk (l : List Lk) : Bool := !(anyFrom (lksBad l) 0 l.length) && decide ((l.length : Int) ≤ 12)

theorem linkOk_call (l : Lk) (h1 : l.name.length ≤ lim) (h2 : l.target.length ≤ lim) (K : Out → Prop) : Call prog 163 ⟨[lkV l], [], []⟩ K = K (.b l.ok, [], []) := by
  refine Call_det ?_ K
  rw [Call_sp (p := prog) (f := 163) rfl _ _ _ rfl (by decide)]
  have e1 := fun K => IsName_call l.name h1 K
  have e2 := fun K => ValidPath_call l.target h2 K
  unfold Lk.ok
  cases d1 : isName l.name
  · rw [d1] at e1; simp -implicitDefEqProofs [lkV, e1]
  rw [d1] at e1
  by_cases d2 : l.target = []
  · cases d3 : inI l.block 1 255 <;> simp -implicitDefEqProofs [lkV, e1, d2, d3, within_call]
  by_cases d3 : l.block = 0
  · cases d4 : (pathOf l.target).isSome <;> rw [d4] at e2 <;> simp -implicitDefEqProofs [lkV, e1, d2, d3, e2]
  · simp -implicitDefEqProofs [lkV, e1, d2, d3]
theorem ValidLinks_call (q : Bool) (l : List Lk) (hl : l.length ≤ lim) (h : ∀ x, x ∈ l → x.name.length ≤ lim ∧ x.target.length ≤ lim) (K : Out → Prop) :
    Call prog 143 ⟨[.view q 3 (l.map lkV)], [], []⟩ K = K (.b (lksOk l), [], []) := by
  refine Call_det ?_ K
  rw [Call_sp (p := prog) (f := 143) rfl _ _ _ rfl (by decide)]
  unfold lim at hl
  unfold lksOk
  simp -implicitDefEqProofs
  refine WL_for (fun i => ⟨sp 34 [(0, .view q 3 (l.map lkV)), (5, .view q 3 (l.map lkV)), (6, .i .i64 l.length), (7, .i .i64 i)], [], []⟩) l.length (fun i => anyFrom (lksBad l) 0 l.length = anyFrom (lksBad l) i (l.length - i)) _ (by simp -implicitDefEqProofs) (by simp) ?_
  intro i hi hP
  by_cases hlt : i < l.length
  · have hw := wrap_i64 (n := (i : Int) + 1) (by omega) (by omega)
    rw [hP, anyFrom_step hlt]
    have hx := h l[i] (List.getElem_mem hlt)
    have e1 := fun K => linkOk_call l[i] hx.1 hx.2 K
    have hb : lksBad l i = (!l[i].ok || (decide (0 < i) && nmLe l[i].name (l[i - 1]'(by omega)).name)) := by unfold lksBad; rw [dif_pos hlt]
    rw [hb]
    simp only [lkV] at e1
    cases d1 : l[i].ok
    · rw [d1] at e1
      simp -implicitDefEqProofs [lkV, hlt, hw, e1, Next]
    rw [d1] at e1
    by_cases d2 : 0 < i
    · have hw2 : IntKind.i64.wrap ((i : Int) - 1) = (i - 1 : Nat) := by rw [wrap_i64 (by omega) (by omega)]; omega
      have hlt2 : i - 1 < l.length := by omega
      unfold nmLe
      cases d3 : Op.bytesLess (l[i - 1]'(by omega)).name l[i].name <;> simp -implicitDefEqProofs [lkV, hlt, hw, e1, d2, d3, hw2, hlt2, bl_total, Next]
    · have : i = 0 := by omega
      subst this
      simp -implicitDefEqProofs [lkV, hlt, hw, e1, Next]
  · rw [hP, anyFrom_end (by omega)]
    by_cases h2 : (l.length : Int) ≤ 12 <;> simp -implicitDefEqProofs [hlt, h2]
set_option maxHeartbeats 1000000 in
theorem l17Ok_call (q : Bool) (l : List Lk) (hl : l.length ≤ lim) (h : ∀ x, x ∈ l → x.name.length ≤ lim ∧ x.target.length ≤ lim) (K : Out → Prop) :
    Call prog 107 ⟨[.view q 3 (l.map lkV)], [], []⟩ K = K (.b (lksOk l), [], []) := by
  refine Call_det ?_ K
  rw [Call_sp (p := prog) (f := 107) rfl _ _ _ rfl (by decide)]
  unfold lim at hl
  unfold lksOk
  simp -implicitDefEqProofs
  refine WL_for (fun i => ⟨sp 62 [(0, .view q 3 (l.map lkV)), (3, .i .i64 i)], [], []⟩) l.length (fun i => anyFrom (lksBad l) 0 l.length = anyFrom (lksBad l) i (l.length - i)) _ (by simp -implicitDefEqProofs) (by simp) ?_
  intro i hi hP
  by_cases hlt : i < l.length
  · have hw := wrap_i64 (n := (i : Int) + 1) (by omega) (by omega)
    rw [hP, anyFrom_step hlt]
    have hx := h l[i] (List.getElem_mem hlt)
    have e1 := fun K => sIsName_call l[i].name hx.1 K
    have e2 := fun K => sValidPath_call l[i].target hx.2 K
    have hb : lksBad l i = (!l[i].ok || (decide (0 < i) && nmLe l[i].name (l[i - 1]'(by omega)).name)) := by unfold lksBad; rw [dif_pos hlt]
    rw [hb]
    unfold Lk.ok
    cases d1 : isName l[i].name
    · rw [d1] at e1
      simp -implicitDefEqProofs [lkV, hlt, hw, e1, Next]
    rw [d1] at e1
    by_cases d2 : 0 < i
    · have hw2 : IntKind.i64.wrap ((i : Int) - 1) = (i - 1 : Nat) := by rw [wrap_i64 (by omega) (by omega)]; omega
      have hlt2 : i - 1 < l.length := by omega
      unfold nmLe
      cases d3 : Op.bytesLess (l[i - 1]'(by omega)).name l[i].name
      · simp -implicitDefEqProofs [lkV, hlt, hw, e1, d2, d3, hw2, hlt2, Next]
      · by_cases d5 : l[i].target = []
        · cases d6 : inI l[i].block 1 255 <;> simp -implicitDefEqProofs [lkV, hlt, hw, e1, d2, d3, d5, d6, l00In_call, hw2, hlt2, Next]
        · by_cases d6 : l[i].block = 0
          · cases d7 : (pathOf l[i].target).isSome <;> rw [d7] at e2 <;> simp -implicitDefEqProofs [lkV, hlt, hw, e1, e2, d2, d3, d5, d6, hw2, hlt2, Next]
          · simp -implicitDefEqProofs [lkV, hlt, hw, e1, e2, d2, d3, d5, d6, hw2, hlt2, Next]
    · have : i = 0 := by omega
      subst this
      by_cases d5 : l[0].target = []
      · cases d6 : inI l[0].block 1 255 <;> simp -implicitDefEqProofs [lkV, hlt, hw, e1, d5, d6, l00In_call, Next]
      · by_cases d6 : l[0].block = 0
        · cases d7 : (pathOf l[0].target).isSome <;> rw [d7] at e2 <;> simp -implicitDefEqProofs [lkV, hlt, hw, e1, e2, d5, d6, Next]
        · simp -implicitDefEqProofs [lkV, hlt, hw, e1, e2, d5, d6, Next]
  · rw [hP, anyFrom_end (by omega)]
    by_cases h2 : (l.length : Int) ≤ 12 <;> simp -implicitDefEqProofs [hlt, h2]
end Go.VS
end
section
namespace Go.VS
set_option linter.unusedSimpArgs false

/-- A decoder's reading of one link. -/
def lkI (h : List Bs) (s : Bs) (bad : Bool) : Lk × Bs × Bool :=
  let k := dTake 1 s bad
  let n := dTake 1 k.2.1 k.2.2
  if n.2.2 = true ∨ heapUsed h (leI k.1) = false then (⟨[], 0, []⟩, n.2.1, true)
  else if leI n.1 = 0 then let b := dTake 2 n.2.1 n.2.2; (⟨h.getD (leI k.1).toNat [], leI b.1, []⟩, b.2.1, b.2.2)
  else let t := dTake (leI n.1).toNat n.2.1 n.2.2; (⟨h.getD (leI k.1).toNat [], 0, t.1⟩, t.2.1, t.2.2)
def rdLks (h : List Bs) : Nat → Bs → Bool → List Lk → Option (List Lk)
  | n, s, bad, acc => if bad = true then none else if s = [] then some acc else match n with
    | 0 => none
    | n + 1 => let d := lkI h s false; rdLks h n d.2.1 d.2.2 (acc ++ [d.1])
def decLinks (h : List Bs) (s : Bs) : Option (List Lk) :=
  if heapOk h = true then match rdLks h s.length s false [] with
    | some l => if lksOk l = true ∧ usedSlots h = l.length then some l else none
    | none => none
  else none
def linksOut (h : List Bs) (s : Bs) : Out := match decLinks h s with
  | none => (.tup [.nil, .b false], [], [])
  | some l => (.tup [.sl 0 0 l.length false, .b true], [], [.row 3 false (l.map lkV)])

theorem heapUsed_lt {l : List Bs} {k : Int} (h : heapUsed l k = true) : 0 ≤ k ∧ k.toNat < l.length := by
  unfold heapUsed inI at h
  simp only [Bool.and_eq_true, decide_eq_true_eq] at h
  omega
set_option maxHeartbeats 1000000 in
theorem link_call (q : Bool) (h : List Bs) (s : Bs) (bad : Bool) (hl : h.length ≤ lim) (hy : ∀ y, y ∈ h → y.length ≤ lim) (hok : heapOk h = true) (hs : s.length ≤ lim) (K : Out → Prop) :
    Call prog 142 ⟨[.ptr 0 0, .agg [.view q 1 (h.map .s)]], [[.s s, .b bad]], []⟩ K = K (lkV (lkI h s bad).1, [[.s (lkI h s bad).2.1, .b (lkI h s bad).2.2]], []) := by
  refine Call_det ?_ K
  rw [Call_sp (p := prog) (f := 142) rfl _ _ _ rfl (by decide)]
  obtain ⟨a, ha⟩ : ∃ a, a = dTake 1 s bad := ⟨_, rfl⟩
  obtain ⟨b, hb⟩ : ∃ b, b = dTake 1 a.2.1 a.2.2 := ⟨_, rfl⟩
  have la : a.2.1.length ≤ s.length := by rw [ha]; exact dTake_len
  have lb : b.2.1.length ≤ a.2.1.length := by rw [hb]; exact dTake_len
  have e1 := fun K => byte_call s bad hs K
  rw [← ha] at e1
  have e2 := fun K => byte_call a.2.1 a.2.2 (by omega) K
  rw [← hb] at e2
  have hd : lkI h s bad = (if b.2.2 = true ∨ heapUsed h (leI a.1) = false then (⟨[], 0, []⟩, b.2.1, true)
      else if leI b.1 = 0 then let c := dTake 2 b.2.1 b.2.2; (⟨h.getD (leI a.1).toNat [], leI c.1, []⟩, c.2.1, c.2.2)
      else let t := dTake (leI b.1).toNat b.2.1 b.2.2; (⟨h.getD (leI a.1).toNat [], 0, t.1⟩, t.2.1, t.2.2)) := by
    unfold lkI; rw [← ha]; simp only [← hb]
  obtain ⟨z, hz, hz2⟩ : ∃ z : Nat, leI b.1 = z ∧ z ≤ 255 := by
    have := leI_one (s := a.2.1) (bad := a.2.2)
    rw [← hb] at this
    exact ⟨(leI b.1).toNat, by omega, by omega⟩
  rw [hd, hz]
  have e3 := fun K => number_call b.2.1 b.2.2 2 (by omega) (by omega) K
  have e4 := fun K => take_call b.2.1 b.2.2 z (by omega) (by omega) K
  have e5 := fun K => used_call q h (leI a.1) hl K
  simp only [Int.cast_ofNat_Int] at e3
  rw [Int.toNat_natCast]
  cases c1 : b.2.2 with
  | true =>
    simp -implicitDefEqProofs [e1, e2, c1, lkV]
  | false =>
    cases c2 : heapUsed h (leI a.1) with
    | false =>
      rw [c2] at e5
      simp -implicitDefEqProofs [e1, e2, c1, e5, lkV]
    | true =>
      rw [c2] at e5
      rw [c1] at e3 e4
      obtain ⟨u, hu⟩ : ∃ u : Nat, leI a.1 = u := ⟨(leI a.1).toNat, by have := heapUsed_lt c2; omega⟩
      have hlt : u < h.length := by have := heapUsed_lt c2; omega
      rw [hu] at e5 ⊢
      rw [Int.toNat_natCast]
      by_cases c3 : z = 0
      · simp -implicitDefEqProofs [e1, e2, hu, hz, c1, c3, e5, e3, lkV, hlt]
      · simp -implicitDefEqProofs [e1, e2, hu, hz, c1, c3, e5, e4, lkV, hlt]
end Go.VS
end
section
namespace Go.VS
set_option linter.unusedSimpArgs false

theorem rdLks_bad {h : List Bs} {n : Nat} {s : Bs} {acc : List Lk} : rdLks h n s true acc = none := by unfold rdLks; rfl
theorem rdLks_nil {h : List Bs} {n : Nat} {s : Bs} {acc : List Lk} (e : s = []) : rdLks h n s false acc = some acc := by unfold rdLks; rw [if_neg (by decide), if_pos e]
theorem rdLks_suc {h : List Bs} {n : Nat} {s : Bs} {acc : List Lk} (e : ¬ s = []) : rdLks h (n + 1) s false acc = rdLks h n (lkI h s false).2.1 (lkI h s false).2.2 (acc ++ [(lkI h s false).1]) := by
  conv => lhs; unfold rdLks
  rw [if_neg (by decide), if_neg e]
theorem getD_len {l : List Bs} {k n : Nat} (hy : ∀ y, y ∈ l → y.length ≤ n) : (l.getD k []).length ≤ n := by
  rw [List.getD_eq_getElem?_getD]
  cases h : l[k]? with
  | none => simp
  | some y => simpa using hy y (List.mem_of_getElem? h)
theorem dTake_one {s : Bs} {bad : Bool} (h : s ≠ []) : (dTake 1 s bad).2.1.length + 1 ≤ s.length := by
  unfold dTake
  cases s with
  | nil => exact absurd rfl h
  | cons a s => simp
theorem lkI_len {h : List Bs} {s : Bs} {bad : Bool} (hy : ∀ y, y ∈ h → y.length ≤ lim) :
    (lkI h s bad).1.name.length ≤ lim ∧ (lkI h s bad).1.target.length ≤ lim ∧ (s ≠ [] → (lkI h s bad).2.1.length + 1 ≤ s.length) ∧ (lkI h s bad).2.1.length ≤ s.length := by
  unfold lkI
  simp only
  have l1 := dTake_len (n := 1) (s := s) (bad := bad)
  have l1' := fun e => dTake_one (s := s) (bad := bad) e
  generalize dTake 1 s bad = a at *
  have l2 := dTake_len (n := 1) (s := a.2.1) (bad := a.2.2)
  have l2' := leI_one (s := a.2.1) (bad := a.2.2)
  generalize dTake 1 a.2.1 a.2.2 = b at *
  have hg := getD_len (k := (leI a.1).toNat) hy
  split
  · simp only [List.length_nil]; unfold lim
    exact ⟨by omega, by omega, fun e => by have := l1' e; omega, by omega⟩
  · split
    · have l3 := dTake_len (n := 2) (s := b.2.1) (bad := b.2.2)
      simp only [List.length_nil]
      exact ⟨hg, by unfold lim; omega, fun e => by have := l1' e; omega, by omega⟩
    · have l3 := dTake_len (n := (leI b.1).toNat) (s := b.2.1) (bad := b.2.2)
      have l4 := dTake_le (n := (leI b.1).toNat) (s := b.2.1) (bad := b.2.2)
      simp only
      refine ⟨hg, by unfold lim; omega, fun e => by have := l1' e; omega, by omega⟩

set_option maxHeartbeats 1000000 in
theorem DecodeLinks_call (q : Bool) (h : List Bs) (s : Bs) (hl : h.length ≤ lim) (hy : ∀ y, y ∈ h → y.length ≤ lim) (hs : s.length ≤ lim) (K : Out → Prop) :
    Call prog 120 ⟨[.s s, .agg [.view q 1 (h.map .s)]], [], []⟩ K = K (linksOut h s) := by
  refine Call_det ?_ K
  rw [Call_sp (p := prog) (f := 120) rfl _ _ _ rfl (by decide)]
  have e1 := fun K => ValidHeap_call q h hl hy K
  unfold linksOut decLinks
  cases hok : heapOk h with
  | false => rw [hok] at e1; simp -implicitDefEqProofs [e1]
  | true =>
    rw [hok] at e1
    have e2 := fun K => usedSlots_call q h hl K
    simp -implicitDefEqProofs [e1]
    refine WL_st (α := Nat × Bs × Bool × List Lk) (fun x => ⟨sp 49 [(3, .ptr 0 0), (6, .ptr 1 0), (7, .sl 0 0 x.2.2.2.length false)], [[.view q 1 (h.map .s)], [.s x.2.1, .b x.2.2.1]], [.row 3 false (x.2.2.2.map lkV)]⟩)
      (fun x => x.1) (fun x => rdLks h s.length s false [] = rdLks h x.1 x.2.1 x.2.2.1 x.2.2.2 ∧ x.2.1.length ≤ x.1 ∧ x.2.2.2.length + x.1 ≤ s.length ∧ ∀ y, y ∈ x.2.2.2 → y.name.length ≤ lim ∧ y.target.length ≤ lim) (s.length, s, false, []) _ (by simp -implicitDefEqProofs) ⟨rfl, by simp, by simp, by simp⟩ ?_
    rintro ⟨n, t, bad, ls⟩ ⟨hP, ht, hm, hz⟩
    simp only at hP ht hm hz
    have e3 := fun K => ValidLinks_call false ls (by omega) hz K
    have e4 := fun K => link_call q h t false hl hy hok (by omega) K
    have hc := lkI_len (s := t) (bad := false) hy
    cases bad with
    | true =>
      rw [rdLks_bad] at hP
      rw [hP]
      by_cases h0 : t = [] <;> simp -implicitDefEqProofs [h0]
    | false =>
      by_cases h0 : t = []
      · rw [rdLks_nil h0] at hP
        rw [hP]
        cases d1 : lksOk ls with
        | false => rw [d1] at e3; simp -implicitDefEqProofs [h0, e3, d1]
        | true =>
          rw [d1] at e3
          by_cases d2 : usedSlots h = ls.length
          · simp -implicitDefEqProofs [h0, e3, e2, d1, d2]
          · have d2' : ¬ (usedSlots h : Int) = ls.length := by omega
            simp -implicitDefEqProofs [h0, e3, e2, d1, d2, d2']
      · have hc3 := hc.2.2.1 h0
        cases n with
        | zero => have := List.length_pos_iff.2 h0; omega
        | succ n =>
          rw [rdLks_suc h0] at hP
          have c2 : ls.length + 1 ≤ lim := by omega
          have hlk : lkV (lkI h t false).1 = .agg [.s (lkI h t false).1.name, .i .i64 (lkI h t false).1.block, .s (lkI h t false).1.target] := rfl
          simp -implicitDefEqProofs [h0, e4, c2, hlk]
          refine NextS.mk (n, (lkI h t false).2.1, (lkI h t false).2.2, ls ++ [(lkI h t false).1]) ⟨hP, by simp only; omega, by simp; omega, ?_⟩ (by simp) (by simp [lkV])
          intro y hy'
          rcases List.mem_append.1 hy' with hy' | hy'
          · exact hz y hy'
          · simp only [List.mem_singleton] at hy'
            subst hy'
            exact ⟨hc.1, hc.2.1⟩
end Go.VS
end
section
namespace Go.VS
set_option linter.unusedSimpArgs false

theorem rAt_ge {s : Bs} {n k : Nat} : k ≤ rAt s n k := by unfold rAt; split <;> omega
theorem dTake_true {n : Nat} {s : Bs} : (dTake n s true).2.2 = true := by unfold dTake; split <;> rfl
theorem dTake_zero {s : Bs} {bad : Bool} : dTake 0 s bad = ([], s, bad) := by unfold dTake; rw [if_pos (by omega)]; rfl
/-- The reference's reading of one link. -/
def lkS (h : List Bs) (a b : Bs × Bs × Bool) : Lk × Bs × Bool :=
  if leI b.1 = 0 then
    (⟨h.getD (leI a.1).toNat [], leI (dTake 1 b.2.1 b.2.2).1 + 256 * leI (dTake 1 (dTake 1 b.2.1 b.2.2).2.1 (dTake 1 b.2.1 b.2.2).2.2).1, []⟩,
      (dTake 1 (dTake 1 b.2.1 b.2.2).2.1 (dTake 1 b.2.1 b.2.2).2.2).2.1, (dTake 1 (dTake 1 b.2.1 b.2.2).2.1 (dTake 1 b.2.1 b.2.2).2.2).2.2)
  else (⟨h.getD (leI a.1).toNat [], 0, (dTake (leI b.1).toNat b.2.1 b.2.2).1⟩, (dTake (leI b.1).toNat b.2.1 b.2.2).2.1, (dTake (leI b.1).toNat b.2.1 b.2.2).2.2)
theorem lkS_eq {h : List Bs} {s : Bs} (a b : Bs × Bs × Bool) (ha : a = dTake 1 s false) (hb : b = dTake 1 a.2.1 a.2.2) (hu : heapUsed h (leI a.1) = true) :
    lkS h a b = lkI h s false ∨ ((lkS h a b).2.2 = true ∧ (lkI h s false).2.2 = true) := by
  unfold lkI
  simp only [← ha, ← hb, hu]
  unfold lkS
  cases c1 : b.2.2 with
  | true =>
    right
    constructor
    · by_cases c2 : leI b.1 = 0
      · rw [if_pos c2]; simp only
        cases h1 : b.2.1 with
        | nil => simp [dTake]
        | cons x r => cases h2 : r <;> simp [dTake]
      · rw [if_neg c2]; exact dTake_true
    · simp
  | false =>
    by_cases c2 : leI b.1 = 0
    · rw [if_pos c2, if_neg (by simp), if_pos c2]
      cases h1 : b.2.1 with
      | nil => right; simp [dTake]
      | cons x r =>
        cases h2 : r with
        | nil => right; simp [dTake]
        | cons y r => left; simp [dTake, leI]
    · rw [if_neg c2, if_neg (by simp), if_neg c2]; left; rfl
theorem rdLks_lkS {h : List Bs} {n : Nat} {s : Bs} {acc : List Lk} (a b : Bs × Bs × Bool) (ha : a = dTake 1 s false) (hb : b = dTake 1 a.2.1 a.2.2) (hu : heapUsed h (leI a.1) = true) :
    rdLks h n (lkI h s false).2.1 (lkI h s false).2.2 (acc ++ [(lkI h s false).1]) = rdLks h n (lkS h a b).2.1 (lkS h a b).2.2 (acc ++ [(lkS h a b).1]) := by
  rcases lkS_eq a b ha hb hu with e | ⟨e1, e2⟩
  · rw [e]
  · rw [e1, e2, rdLks_bad, rdLks_bad]
theorem rdLks_unused {h : List Bs} {n : Nat} {s : Bs} {acc : List Lk} (hu : heapUsed h (leI (dTake 1 s false).1) = false) :
    rdLks h n (lkI h s false).2.1 (lkI h s false).2.2 (acc ++ [(lkI h s false).1]) = none := by
  have : (lkI h s false).2.2 = true := by unfold lkI; simp only [hu]; rw [if_pos (by simp)]
  rw [this, rdLks_bad]

set_option maxHeartbeats 1000000 in
theorem sDecodeLinks_call (q : Bool) (h : List Bs) (s : Bs) (hl : h.length ≤ lim) (hy : ∀ y, y ∈ h → y.length ≤ lim) (hs : s.length ≤ lim) (K : Out → Prop) :
    Call prog 76 ⟨[.s s, .agg [.view q 1 (h.map .s)]], [], []⟩ K = K (linksOut h s) := by
  refine Call_det ?_ K
  rw [Call_sp (p := prog) (f := 76) rfl _ _ _ rfl (by decide)]
  have e1 := fun K => l16Ok_call q h hl hy K
  unfold linksOut decLinks
  cases hok : heapOk h with
  | false => rw [hok] at e1; simp -implicitDefEqProofs [e1]
  | true =>
    rw [hok] at e1
    have e2 := fun K => l17Count_call q h hl K
    simp -implicitDefEqProofs [e1]
    refine WL_st (α := Nat × Nat × Bool × List Lk) (fun x => ⟨sp 83 [(0, .s s), (3, .ptr 0 0), (6, .ptr 1 0), (7, .sl 0 0 x.2.2.2.length false)], [[.view q 1 (h.map .s)], [.s s, .i .i64 x.2.1, .b x.2.2.1]], [.row 3 false (x.2.2.2.map lkV)]⟩)
      (fun x => x.1) (fun x => rdLks h s.length s false [] = rdLks h x.1 (s.drop x.2.1) x.2.2.1 x.2.2.2 ∧ x.2.1 ≤ s.length ∧ s.length - x.2.1 ≤ x.1 ∧ x.2.2.2.length + x.1 ≤ s.length ∧ ∀ y, y ∈ x.2.2.2 → y.name.length ≤ lim ∧ y.target.length ≤ lim) (s.length, 0, false, []) _ (by simp -implicitDefEqProofs) ⟨rfl, by simp, by simp, by simp, by simp⟩ ?_
    rintro ⟨n, k, bad, ls⟩ ⟨hP, hk, ht, hm, hz⟩
    simp only at hP hk ht hm hz
    have e3 := fun K => l17Ok_call false ls (by omega) hz K
    have hs' := hs
    unfold lim at hs'
    cases bad with
    | true =>
      rw [rdLks_bad] at hP
      rw [hP]
      by_cases h0 : k < s.length <;> simp -implicitDefEqProofs [h0]
    | false =>
      by_cases h0 : k < s.length
      · have hn0 : ¬ s.drop k = [] := by rw [List.drop_eq_nil_iff]; omega
        obtain ⟨a, ha⟩ : ∃ a, a = dTake 1 (s.drop k) false := ⟨_, rfl⟩
        obtain ⟨b, hb⟩ : ∃ b, b = dTake 1 a.2.1 a.2.2 := ⟨_, rfl⟩
        have q1 := rAt_le (s := s) (n := 1) hk
        have q2 := rAt_le (s := s) (n := 1) q1
        have q1' : rAt s 1 k = k + 1 := by unfold rAt; rw [if_pos (by omega)]
        have q2' : rAt s 1 k ≤ rAt s 1 (rAt s 1 k) := rAt_ge
        have s1 : s.drop (rAt s 1 k) = a.2.1 := by rw [rAt_drop (bad := false), ← ha]
        have s2 : s.drop (rAt s 1 (rAt s 1 k)) = b.2.1 := by rw [rAt_drop (bad := a.2.2), s1, ← hb]
        have f1 := fun K => rbyte_call s k false hs hk K
        rw [← ha] at f1
        have f2 := fun K => rbyte_call s _ a.2.2 hs q1 K
        rw [s1, ← hb] at f2
        have f3 := fun K => NameAt_call q h (leI a.1) hl hy hok K
        generalize rAt s 1 k = k1 at *
        generalize rAt s 1 k1 = k2 at *
        have hc := rdLks_lkS (h := h) (n := n - 1) (s := s.drop k) (acc := ls) a b ha hb
        cases n with
        | zero => omega
        | succ n =>
          rw [rdLks_suc hn0] at hP
          cases c1 : heapUsed h (leI a.1) with
          | false =>
            rw [rdLks_unused (by rw [← ha]; exact c1)] at hP
            rw [hP]
            rw [c1] at f3
            simp -implicitDefEqProofs [h0, f1, f3]
          | true =>
            rw [rdLks_lkS a b ha hb c1] at hP
            rw [c1] at f3
            have g1 := getD_len (k := (leI a.1).toNat) hy
            obtain ⟨z, hz1, hz2⟩ : ∃ z : Nat, leI b.1 = z ∧ z ≤ 255 := by
              have := leI_one (s := a.2.1) (bad := a.2.2)
              rw [← hb] at this
              exact ⟨(leI b.1).toNat, by omega, by omega⟩
            have c2 : ls.length + 1 ≤ lim := by unfold lim; omega
            by_cases hz0 : z = 0
            · have hS : lkS h a b = (⟨h.getD (leI a.1).toNat [], leI (dTake 1 b.2.1 b.2.2).1 + 256 * leI (dTake 1 (dTake 1 b.2.1 b.2.2).2.1 (dTake 1 b.2.1 b.2.2).2.2).1, []⟩,
                  (dTake 1 (dTake 1 b.2.1 b.2.2).2.1 (dTake 1 b.2.1 b.2.2).2.2).2.1, (dTake 1 (dTake 1 b.2.1 b.2.2).2.1 (dTake 1 b.2.1 b.2.2).2.2).2.2) := by
                unfold lkS; rw [if_pos (by omega)]
              have g2 := fun K => rbyte_call s k2 b.2.2 hs q2 K
              rw [s2] at g2
              have q3 := rAt_le (s := s) (n := 1) q2
              have q3' := rAt_ge (s := s) (n := 1) (k := k2)
              have s3 : s.drop (rAt s 1 k2) = (dTake 1 b.2.1 b.2.2).2.1 := by rw [rAt_drop (bad := b.2.2), s2]
              have v1 := leI_one (s := b.2.1) (bad := b.2.2)
              obtain ⟨c, hc⟩ : ∃ c, c = dTake 1 b.2.1 b.2.2 := ⟨_, rfl⟩
              rw [← hc] at hS g2 s3 v1
              generalize rAt s 1 k2 = k3 at *
              have g3 := fun K => rbyte_call s k3 c.2.2 hs q3 K
              rw [s3] at g3
              have q4 := rAt_le (s := s) (n := 1) q3
              have q4' := rAt_ge (s := s) (n := 1) (k := k3)
              have s4 : s.drop (rAt s 1 k3) = (dTake 1 c.2.1 c.2.2).2.1 := by rw [rAt_drop (bad := c.2.2), s3]
              have v2 := leI_one (s := c.2.1) (bad := c.2.2)
              obtain ⟨d, hd⟩ : ∃ d, d = dTake 1 c.2.1 c.2.2 := ⟨_, rfl⟩
              rw [← hd] at hS g3 s4 v2
              generalize rAt s 1 k3 = k4 at *
              have g4 := fun K => rtake_call s k4 0 d.2.2 hs q4 (by omega) K
              rw [s4, dTake_zero] at g4
              have q5 : rAt s 0 k4 = k4 := by unfold rAt; rw [if_pos (by omega)]; rfl
              rw [q5] at g4
              simp only [Int.natCast_zero] at g4
              rw [hS] at hP
              have hz3 : leI b.1 = 0 := by omega
              have w1 := wrap_i64 (n := 256 * leI d.1) (by omega) (by omega)
              have w2 := wrap_i64 (n := leI c.1 + 256 * leI d.1) (by omega) (by omega)
              simp -implicitDefEqProofs [h0, f1, f2, f3, hz3, g2, g3, g4, w1, w2, c2]
              refine NextS.mk (n, k4, d.2.2, ls ++ [⟨h.getD (leI a.1).toNat [], leI c.1 + 256 * leI d.1, []⟩]) ⟨by rw [hP, s4], q4, by simp only; omega, by simp; omega, ?_⟩ (by simp) (by simp [lkV])
              intro y hy'
              rcases List.mem_append.1 hy' with hy' | hy'
              · exact hz y hy'
              · simp only [List.mem_singleton] at hy'
                subst hy'
                exact ⟨g1, by unfold lim; simp⟩
            · have hS : lkS h a b = (⟨h.getD (leI a.1).toNat [], 0, (dTake z b.2.1 b.2.2).1⟩, (dTake z b.2.1 b.2.2).2.1, (dTake z b.2.1 b.2.2).2.2) := by
                unfold lkS; rw [if_neg (by omega), hz1]; rfl
              have g4 := fun K => rtake_call s k2 z b.2.2 hs q2 (by omega) K
              rw [s2] at g4
              have q3 := rAt_le (s := s) (n := z) q2
              have q3' := rAt_ge (s := s) (n := z) (k := k2)
              have s3 : s.drop (rAt s z k2) = (dTake z b.2.1 b.2.2).2.1 := by rw [rAt_drop (bad := b.2.2), s2]
              have v1 := dTake_le (n := z) (s := b.2.1) (bad := b.2.2)
              obtain ⟨c, hc⟩ : ∃ c, c = dTake z b.2.1 b.2.2 := ⟨_, rfl⟩
              rw [← hc] at hS g4 s3 v1
              generalize rAt s z k2 = k3 at *
              rw [hS] at hP
              simp -implicitDefEqProofs [h0, f1, f2, f3, hz1, hz0, g4, c2]
              refine NextS.mk (n, k3, c.2.2, ls ++ [⟨h.getD (leI a.1).toNat [], 0, c.1⟩]) ⟨by rw [hP, s3], q3, by simp only; omega, by simp; omega, ?_⟩ (by simp) (by simp [lkV])
              intro y hy'
              rcases List.mem_append.1 hy' with hy' | hy'
              · exact hz y hy'
              · simp only [List.mem_singleton] at hy'
                subst hy'
                exact ⟨g1, by unfold lim; simp only; omega⟩
      · have h0' : s.drop k = [] := by rw [List.drop_eq_nil_iff]; omega
        rw [rdLks_nil h0'] at hP
        rw [hP]
        cases d1 : lksOk ls with
        | false => rw [d1] at e3; simp -implicitDefEqProofs [h0, e3, d1]
        | true =>
          rw [d1] at e3
          by_cases d2 : usedSlots h = ls.length
          · simp -implicitDefEqProofs [h0, e3, e2, d1, d2]
          · have d2' : ¬ (usedSlots h : Int) = ls.length := by omega
            simp -implicitDefEqProofs [h0, e3, e2, d1, d2, d2']
end Go.VS
end
section
namespace Go.VS
set_option linter.unusedSimpArgs false

theorem ValidHeap_nil (K : Out → Prop) : Call prog 141 ⟨[.agg [.nil]], [], []⟩ K = K (.b true, [], []) := by
  refine Call_det ?_ K
  rw [Call_sp (p := prog) (f := 141) rfl _ _ _ rfl (by decide)]
  have e := fun K => cfS heapBad 161 [] true [] (by unfold lim; simp) rfl (fun x hx => absurd hx (by simp)) K
  have e' : ∀ K, Call prog 86 ⟨[.view true 1 [], .fn 161 []], [], []⟩ K = K (.b false, [], []) := e
  simp -implicitDefEqProofs [e']
theorem used_nil (k : Int) (K : Out → Prop) : Call prog 162 ⟨[.agg [.nil], .i .i64 k], [], []⟩ K = K (.b false, [], []) := by
  refine Call_det ?_ K
  rw [Call_sp (p := prog) (f := 162) rfl _ _ _ rfl (by decide)]
  have e := fun K => isIndex_call k 0 (by unfold lim; omega) K
  have h : inI k 0 (((0 : Nat) : Int) - 1) = false := by unfold inI; simp; omega
  rw [h] at e
  simp only [Int.natCast_zero] at e
  simp -implicitDefEqProofs [e]
theorem usedSlots_nil (K : Out → Prop) : Call prog 144 ⟨[.agg [.nil]], [], []⟩ K = K (.i .i64 0, [], []) := by
  rw [Call_intr (p := prog) (f := 144) rfl]
  simp [nUsedSlots]
set_option maxHeartbeats 1000000 in
theorem link_nil (s : Bs) (bad : Bool) (hs : s.length ≤ lim) (K : Out → Prop) :
    Call prog 142 ⟨[.ptr 0 0, .agg [.nil]], [[.s s, .b bad]], []⟩ K = K (.agg [.s [], .i .i64 0, .s []], [[.s (dTake 1 (dTake 1 s bad).2.1 (dTake 1 s bad).2.2).2.1, .b true]], []) := by
  obtain ⟨a, ha⟩ : ∃ a, a = dTake 1 s bad := ⟨_, rfl⟩
  obtain ⟨b, hb⟩ : ∃ b, b = dTake 1 a.2.1 a.2.2 := ⟨_, rfl⟩
  rw [← ha, ← hb]
  refine Call_det ?_ K
  rw [Call_sp (p := prog) (f := 142) rfl _ _ _ rfl (by decide)]
  have la : a.2.1.length ≤ s.length := by rw [ha]; exact dTake_len
  have e1 := fun K => byte_call s bad hs K
  rw [← ha] at e1
  have e2 := fun K => byte_call a.2.1 a.2.2 (by omega) K
  rw [← hb] at e2
  have e5 := fun K => used_nil (leI a.1) K
  cases c1 : b.2.2 <;> simp -implicitDefEqProofs [e1, e2, c1, e5]
set_option maxHeartbeats 1000000 in
theorem DecodeLinks_nil (s : Bs) (hs : s.length ≤ lim) (K : Out → Prop) :
    Call prog 120 ⟨[.s s, .agg [.nil]], [], []⟩ K = K (if s = [] then (.tup [.sl 0 0 0 false, .b true], [], [.row 3 false []]) else (.tup [.nil, .b false], [], [])) := by
  refine Call_det ?_ K
  rw [Call_sp (p := prog) (f := 120) rfl _ _ _ rfl (by decide)]
  simp -implicitDefEqProofs [ValidHeap_nil]
  refine WL_st (α := Option Bs) (fun x => ⟨sp 49 [(3, .ptr 0 0), (6, .ptr 1 0), (7, .sl 0 0 (match x with | none => 0 | some _ => 1) false)], [[.nil], [.s (x.getD s), .b x.isSome]], [.row 3 false (match x with | none => [] | some _ => [.agg [.s [], .i .i64 0, .s []]])]⟩)
    (fun x => if x.isSome then 0 else 1) (fun x => x.isSome = true → s ≠ []) none _ (by simp -implicitDefEqProofs) (by simp) ?_
  intro x hx
  cases x with
  | none =>
    by_cases h0 : s = []
    · have e3 := fun K => ValidLinks_call false [] (by unfold lim; simp) (fun x hx => absurd hx (by simp)) K
      have e3' : ∀ K, Call prog 143 ⟨[.view false 3 []], [], []⟩ K = K (.b true, [], []) := e3
      simp -implicitDefEqProofs [h0, e3', usedSlots_nil]
    · obtain ⟨t, e4⟩ : ∃ t, ∀ K, Call prog 142 ⟨[.ptr 0 0, .agg [.nil]], [[.s s, .b false]], []⟩ K = K (.agg [.s [], .i .i64 0, .s []], [[.s t, .b true]], []) := by
        refine ⟨(dTake 1 (dTake 1 s false).2.1 (dTake 1 s false).2.2).2.1, fun K => ?_⟩
        exact link_nil s false hs K
      have c2 : 1 ≤ lim := by unfold lim; omega
      simp -implicitDefEqProofs [h0, e4, c2]
      exact NextS.mk (some t) (fun _ => h0) (by simp) (by simp)
  | some t =>
    have h0 := hx rfl
    by_cases h1 : t = [] <;> simp -implicitDefEqProofs [h0, h1]
end Go.VS
end
section
namespace Go.VS
set_option linter.unusedSimpArgs false

theorem decHdr_ok {s : Bs} {h : Hd} (e : decHdr s = some h) : h.ok = true := by
  rw [decHdr_eq] at e
  simp only at e
  split at e
  · rename_i c; cases e; exact c.2.2
  · cases e
theorem Hd.ok_facts {h : Hd} (e : h.ok = true) : h.msgs.length ≤ 24 ∧ ∀ m, m ∈ h.msgs → m.data.length ≤ 200 := by
  unfold Hd.ok at e
  simp only [Bool.and_eq_true, decide_eq_true_eq, Bool.not_eq_true', List.any_eq_false] at e
  refine ⟨by omega, fun m hm => ?_⟩
  have := e.2 m hm
  unfold msBad at this
  simp only [Bool.not_eq_true', Bool.not_eq_false, Bool.and_eq_true, decide_eq_true_eq] at this
  omega
theorem heapOk_facts {l : List Bs} (e : heapOk l = true) : l.length ≤ 30 ∧ ∀ y, y ∈ l → y.length ≤ 12 := by
  unfold heapOk at e
  simp only [Bool.and_eq_true, decide_eq_true_eq, Bool.not_eq_true', List.any_eq_false] at e
  refine ⟨by omega, fun y hy => ?_⟩
  have := e.2 y hy
  unfold heapBad at this
  by_cases h0 : y = []
  · simp [h0]
  · simp only [ne_eq, h0, not_false_eq_true, decide_true, Bool.true_and, Bool.not_eq_true', Bool.not_eq_false] at this
    unfold isName at this
    simp only [Bool.and_eq_true, decide_eq_true_eq] at this
    omega
theorem decHeap_ok {s : Bs} {l : List Bs} (e : decHeap s = some l) : heapOk l = true := by
  unfold decHeap at e
  simp only at e
  split at e
  · rename_i c; cases e; exact c.2.2
  · cases e
theorem decLinks_ok {h : List Bs} {s : Bs} {l : List Lk} (e : decLinks h s = some l) : lksOk l = true := by
  unfold decLinks at e
  split at e
  · split at e
    · split at e
      · rename_i c; cases e; exact c.1
      · cases e
    · cases e
  · cases e
theorem Pr.hdr_ok {p : Pr} {k : Int} {h : Hd} (e : p.hdr k = some h) : h.ok = true := by
  unfold Pr.hdr at e
  split at e
  · cases e
  · exact decHdr_ok e

structure Gr where
  hd : Hd
  heap : List Bs
  links : List Lk
/-- The group at this block, or the code of a failure. -/
def Pr.grp (p : Pr) (k : Int) : Except Int Gr :=
  match p.hdr k with
  | none => .error 10
  | some h => if h.kind ≠ 1 then .error 7 else if onlyB h.msgs 9 = true ∧ onlyB h.msgs 7 = true then
      match decHeap (h.msgs.getD (onlyX h.msgs 9).toNat default).data with
      | none => .error 10
      | some hp => match decLinks hp (h.msgs.getD (onlyX h.msgs 7).toNat default).data with
        | none => .error 10
        | some l => .ok ⟨h, hp, l⟩
    else .error 10
def grpOut (p : Pr) (k : Int) : Out := match p.grp k with
  | .error c => (.tup [.agg [.i .i64 0, .i .i64 0, .i .i64 0, .nil, .nil, .nil], .i .i64 c], [], [])
  | .ok g => (.tup [.agg [.i .i64 k, .i .i64 g.hd.kind, .i .i64 g.hd.refs, .sl 0 0 g.hd.msgs.length false, .sl 1 0 g.heap.length false, .sl 2 0 g.links.length false], .i .i64 0], [],
      [.row 3 false (g.hd.msgs.map msV), .row 1 false (g.heap.map .s), .row 3 false (g.links.map lkV)])
def sgrpOut (p : Pr) (k : Int) : Out := match p.grp k with
  | .error c => (.tup [.agg [.i .i64 0, .i .i64 0, .nil, .nil, .nil], .i .i64 c], [], [])
  | .ok g => (.tup [.agg [.i .i64 g.hd.kind, .i .i64 g.hd.refs, .sl 0 0 g.hd.msgs.length false, .sl 1 0 g.heap.length false, .sl 2 0 g.links.length false], .i .i64 0], [],
      [.row 3 false (g.hd.msgs.map msV), .row 1 false (g.heap.map .s), .row 3 false (g.links.map lkV)])
theorem onlyB_get {ms : List Ms} {k : Int} (h : onlyB ms k = true) : ∃ j : Nat, ∃ hj : j < ms.length, onlyX ms k = j ∧ ms.getD (onlyX ms k).toNat default = ms[j] := by
  obtain ⟨j, h1, h2⟩ := onlyB_lt h
  refine ⟨j, h2, h1, ?_⟩
  rw [h1, Int.toNat_natCast, List.getD_eq_getElem?_getD, List.getElem?_eq_getElem h2]; rfl
section
variable {p : Pr} {k : Int} {h : Hd}
theorem grp_none (c0 : p.hdr k = none) : p.grp k = .error 10 := by unfold Pr.grp; rw [c0]
theorem grp_kind (c0 : p.hdr k = some h) (c1 : ¬ h.kind = 1) : p.grp k = .error 7 := by unfold Pr.grp; rw [c0]; exact if_pos c1
theorem grp_only (c0 : p.hdr k = some h) (c1 : h.kind = 1) (c2 : ¬ (onlyB h.msgs 9 = true ∧ onlyB h.msgs 7 = true)) : p.grp k = .error 10 := by
  unfold Pr.grp; rw [c0]; simp only; rw [if_neg (by simp [c1]), if_neg c2]
variable {m n : Ms}
theorem grp_heap (c0 : p.hdr k = some h) (c1 : h.kind = 1) (c2 : onlyB h.msgs 9 = true) (c3 : onlyB h.msgs 7 = true) (hm : h.msgs.getD (onlyX h.msgs 9).toNat default = m) (c4 : decHeap m.data = none) : p.grp k = .error 10 := by
  unfold Pr.grp; rw [c0]; simp only; rw [if_neg (by simp [c1]), if_pos ⟨c2, c3⟩, hm, c4]
theorem grp_links (c0 : p.hdr k = some h) (c1 : h.kind = 1) (c2 : onlyB h.msgs 9 = true) (c3 : onlyB h.msgs 7 = true) (hm : h.msgs.getD (onlyX h.msgs 9).toNat default = m) (hn : h.msgs.getD (onlyX h.msgs 7).toNat default = n)
    {hp : List Bs} (c4 : decHeap m.data = some hp) (c5 : decLinks hp n.data = none) : p.grp k = .error 10 := by
  unfold Pr.grp; rw [c0]; simp only; rw [if_neg (by simp [c1]), if_pos ⟨c2, c3⟩, hm, hn, c4]; simp only; rw [c5]
theorem grp_ok (c0 : p.hdr k = some h) (c1 : h.kind = 1) (c2 : onlyB h.msgs 9 = true) (c3 : onlyB h.msgs 7 = true) (hm : h.msgs.getD (onlyX h.msgs 9).toNat default = m) (hn : h.msgs.getD (onlyX h.msgs 7).toNat default = n)
    {hp : List Bs} {l : List Lk} (c4 : decHeap m.data = some hp) (c5 : decLinks hp n.data = some l) : p.grp k = .ok ⟨h, hp, l⟩ := by
  unfold Pr.grp; rw [c0]; simp only; rw [if_neg (by simp [c1]), if_pos ⟨c2, c3⟩, hm, hn, c4]; simp only; rw [c5]
end
set_option maxHeartbeats 1000000 in
theorem group_call (q : Bool) (p : Pr) (h : p.Ok) (k : Int) (K : Out → Prop) : Call prog 88 ⟨[.vp (prC q p), .i .i64 k], [], []⟩ K = K (grpOut p k) := by
  refine Call_det ?_ K
  rw [Call_sp (p := prog) (f := 88) rfl _ _ _ rfl (by decide)]
  have e0 := fun K => header_call q p h k K
  unfold hdrOut at e0
  unfold grpOut
  cases c0 : p.hdr k with
  | none => rw [grp_none c0]; simp only [c0] at e0; simp -implicitDefEqProofs [e0]
  | some h =>
    simp only [c0] at e0
    have f0 := Hd.ok_facts (Pr.hdr_ok c0)
    by_cases c1 : h.kind = 1
    · have e1 := fun K => only_call false h 9 (by unfold lim; omega) K
      have e2 := fun K => only_call false h 7 (by unfold lim; omega) K
      rw [c1] at e1 e2
      cases c2 : onlyB h.msgs 9 with
      | false =>
        rw [grp_only c0 c1 (by simp [c2])]
        rw [c2] at e1
        simp -implicitDefEqProofs [e0, e1, e2, c1]
      | true =>
      cases c3 : onlyB h.msgs 7 with
      | false =>
        rw [grp_only c0 c1 (by simp [c3])]
        rw [c2] at e1
        rw [c3] at e2
        simp -implicitDefEqProofs [e0, e1, e2, c1]
      | true =>
        rw [c2] at e1
        rw [c3] at e2
        obtain ⟨j, hj, hj1, hj2⟩ := onlyB_get c2
        obtain ⟨i, hi, hi1, hi2⟩ := onlyB_get c3
        have g1 := f0.2 _ (List.getElem_mem hj)
        have g2 := f0.2 _ (List.getElem_mem hi)
        rw [hj1] at e1
        rw [hi1] at e2
        have e3 := fun K => DecodeHeap_call h.msgs[j].data (by unfold lim; omega) K
        unfold heapOut at e3
        cases c4 : decHeap h.msgs[j].data with
        | none =>
          rw [grp_heap c0 c1 c2 c3 hj2 c4]
          simp only [c4] at e3
          have e4 := fun K => DecodeLinks_nil h.msgs[i].data (by unfold lim; omega) K
          by_cases c5 : h.msgs[i].data = []
          · rw [c5] at e4
            simp only [if_true] at e4
            simp -implicitDefEqProofs [e0, e1, e2, e3, e4, c1, c5, msV, hj, hi]
          · simp only [if_neg c5] at e4
            simp -implicitDefEqProofs [e0, e1, e2, e3, e4, c1, msV, hj, hi]
        | some hp =>
          simp only [c4] at e3
          have f1 := heapOk_facts (decHeap_ok c4)
          have e4 := fun K => DecodeLinks_call false hp h.msgs[i].data (by unfold lim; omega) (fun y hy => by have := f1.2 y hy; unfold lim; omega) (by unfold lim; omega) K
          unfold linksOut at e4
          cases c5 : decLinks hp h.msgs[i].data with
          | none =>
            rw [grp_links c0 c1 c2 c3 hj2 hi2 c4 c5]
            simp only [c5] at e4
            simp -implicitDefEqProofs [e0, e1, e2, e3, e4, c1, msV, hj, hi]
          | some l =>
            rw [grp_ok c0 c1 c2 c3 hj2 hi2 c4 c5]
            simp only [c5] at e4
            simp -implicitDefEqProofs [e0, e1, e2, e3, e4, c1, msV, hj, hi]
    · rw [grp_kind c0 c1]
      simp -implicitDefEqProofs [e0, c1]
set_option maxHeartbeats 1000000 in
theorem l17Read_call (q : Bool) (p : Pr) (h : p.Ok) (k : Int) (K : Out → Prop) : Call prog 44 ⟨[.vp (prC q p), .i .i64 k], [], []⟩ K = K (sgrpOut p k) := by
  refine Call_det ?_ K
  rw [Call_sp (p := prog) (f := 44) rfl _ _ _ rfl (by decide)]
  have e0 := fun K => l14Read_call q p h k K
  unfold hdrOut at e0
  unfold sgrpOut
  cases c0 : p.hdr k with
  | none => rw [grp_none c0]; simp only [c0] at e0; simp -implicitDefEqProofs [e0]
  | some h =>
    simp only [c0] at e0
    have f0 := Hd.ok_facts (Pr.hdr_ok c0)
    by_cases c1 : h.kind = 1
    · have e1 := fun K => l17Only_call false h 9 (by unfold lim; omega) K
      have e2 := fun K => l17Only_call false h 7 (by unfold lim; omega) K
      rw [c1, onlyW_eq] at e1 e2
      cases c2 : onlyB h.msgs 9 with
      | false =>
        rw [grp_only c0 c1 (by simp [c2])]
        rw [c2] at e1
        simp only [Bool.false_eq_true, if_false] at e1
        simp -implicitDefEqProofs [e0, e1, e2, c1]
      | true =>
      obtain ⟨j, hj, hj1, hj2⟩ := onlyB_get c2
      rw [c2, hj1] at e1
      simp only [if_true, Int.natCast_zero, Int.add_zero] at e1
      have j0 : ¬ (j : Int) < 0 := by omega
      cases c3 : onlyB h.msgs 7 with
      | false =>
        rw [grp_only c0 c1 (by simp [c3])]
        rw [c3] at e2
        simp only [Bool.false_eq_true, if_false] at e2
        simp -implicitDefEqProofs [e0, e1, e2, c1, j0]
      | true =>
        obtain ⟨i, hi, hi1, hi2⟩ := onlyB_get c3
        rw [c3, hi1] at e2
        simp only [if_true, Int.natCast_zero, Int.add_zero] at e2
        have i0 : ¬ (i : Int) < 0 := by omega
        have g1 := f0.2 _ (List.getElem_mem hj)
        have g2 := f0.2 _ (List.getElem_mem hi)
        have e3 := fun K => sDecodeHeap_call h.msgs[j].data (by unfold lim; omega) K
        unfold heapOut at e3
        cases c4 : decHeap h.msgs[j].data with
        | none =>
          rw [grp_heap c0 c1 c2 c3 hj2 c4]
          simp only [c4] at e3
          simp -implicitDefEqProofs [e0, e1, e2, e3, c1, j0, i0, msV, hj, hi]
        | some hp =>
          simp only [c4] at e3
          have f1 := heapOk_facts (decHeap_ok c4)
          have e4 := fun K => sDecodeLinks_call false hp h.msgs[i].data (by unfold lim; omega) (fun y hy => by have := f1.2 y hy; unfold lim; omega) (by unfold lim; omega) K
          unfold linksOut at e4
          cases c5 : decLinks hp h.msgs[i].data with
          | none =>
            rw [grp_links c0 c1 c2 c3 hj2 hi2 c4 c5]
            simp only [c5] at e4
            simp -implicitDefEqProofs [e0, e1, e2, e3, e4, c1, j0, i0, msV, hj, hi]
          | some l =>
            rw [grp_ok c0 c1 c2 c3 hj2 hi2 c4 c5]
            simp only [c5] at e4
            simp -implicitDefEqProofs [e0, e1, e2, e3, e4, c1, j0, i0, msV, hj, hi]
    · rw [grp_kind c0 c1]
      simp -implicitDefEqProofs [e0, c1]
end Go.VS
end
section
namespace Go.VS
set_option linter.unusedSimpArgs false

def hards (l : List Lk) : List Int := (l.filter fun x => decide (x.target = [])).map Lk.block
def Pr.tg (p : Pr) (k : Int) : List Int := match p.grp k with
  | .error _ => []
  | .ok g => hards g.links
theorem hards_app {l : List Lk} {x : Lk} : hards (l ++ [x]) = if x.target = [] then hards l ++ [x.block] else hards l := by
  unfold hards
  rw [List.filter_append]
  by_cases h : x.target = [] <;> simp [h]
theorem hards_len (l : List Lk) : (hards l).length ≤ l.length := by unfold hards; rw [List.length_map]; exact List.length_filter_le ..
def isErr {α β : Type} : Except α β → Bool
  | .error _ => true
  | .ok _ => false
def tgOut (p : Pr) (k : Int) : Out := match p.grp k with
  | .error _ => (.nil, [], [])
  | .ok g => (.sl 0 0 (hards g.links).length false, [], [rowI (hards g.links)])
theorem grp_facts {p : Pr} {k : Int} {g : Gr} (e : p.grp k = .ok g) : lksOk g.links = true := by
  unfold Pr.grp at e
  split at e
  · cases e
  · split at e
    · cases e
    · split at e
      · split at e
        · cases e
        · split at e
          · cases e
          · rename_i h; cases e; exact decLinks_ok h
      · cases e
theorem grp_code {p : Pr} {k c : Int} (e : p.grp k = .error c) : c = 10 ∨ c = 7 := by
  unfold Pr.grp at e
  split at e
  · cases e; exact .inl rfl
  · split at e
    · cases e; exact .inr rfl
    · split at e
      · split at e
        · cases e; exact .inl rfl
        · split at e
          · cases e; exact .inl rfl
          · cases e
      · cases e; exact .inl rfl
theorem lksOk_facts {l : List Lk} (e : lksOk l = true) : l.length ≤ 12 ∧ ∀ x, x ∈ l → x.ok = true := by
  unfold lksOk at e
  simp only [Bool.and_eq_true, decide_eq_true_eq, Bool.not_eq_true'] at e
  refine ⟨by omega, fun x hx => ?_⟩
  obtain ⟨i, hi, rfl⟩ := List.getElem_of_mem hx
  have := anyFrom_false _ _ e.1 i (Nat.zero_le _) (by omega)
  unfold lksBad at this
  rw [dif_pos hi] at this
  simp only [Bool.or_eq_false_iff, Bool.not_eq_false'] at this
  exact this.1
theorem hards_in {l : List Lk} (e : lksOk l = true) {k : Int} (h : k ∈ hards l) : 1 ≤ k ∧ k ≤ 255 := by
  unfold hards at h
  obtain ⟨x, hx, rfl⟩ := List.mem_map.1 h
  obtain ⟨h1, h2⟩ := List.mem_filter.1 hx
  have := (lksOk_facts e).2 x h1
  unfold Lk.ok at this
  have h3 : x.target = [] := by simpa using h2
  rw [if_pos h3] at this
  unfold inI at this
  simp only [Bool.and_eq_true, decide_eq_true_eq] at this
  exact this.2
set_option maxHeartbeats 1000000 in
theorem targets_call (q : Bool) (p : Pr) (h : p.Ok) (k : Int) (K : Out → Prop) : Call prog 97 ⟨[.vp (prC q p), .i .i64 k], [], []⟩ K = K (tgOut p k) := by
  refine Call_det ?_ K
  rw [Call_sp (p := prog) (f := 97) rfl _ _ _ rfl (by decide)]
  have e0 := fun K => group_call q p h k K
  unfold grpOut at e0
  unfold tgOut
  cases c0 : p.grp k with
  | error c =>
    simp only [c0] at e0
    have hc : ¬ c = 0 := by have := grp_code c0; omega
    simp -implicitDefEqProofs [e0, hc]
  | ok g =>
    simp only [c0] at e0
    have f0 := (lksOk_facts (grp_facts c0)).1
    simp -implicitDefEqProofs [e0]
    refine WL_for (fun i => ⟨sp 35 [(7, .sl 3 0 (hards (g.links.take i)).length false), (19, .sl 2 0 g.links.length false), (20, .i .i64 g.links.length), (21, .i .i64 i)], [[.i .i64 k, .i .i64 g.hd.kind, .i .i64 g.hd.refs, .sl 0 0 g.hd.msgs.length false, .sl 1 0 g.heap.length false, .sl 2 0 g.links.length false]],
      [.row 3 false (g.hd.msgs.map msV), .row 1 false (g.heap.map .s), .row 3 false (g.links.map lkV), rowI (hards (g.links.take i))]⟩) g.links.length (fun i => True) _ (by simp -implicitDefEqProofs [hards, rowI]) trivial ?_
    intro i hi _
    by_cases hlt : i < g.links.length
    · have hw := wrap_i64 (n := (i : Int) + 1) (by omega) (by omega)
      have hl := hards_len (g.links.take i)
      rw [List.length_take] at hl
      have ht := List.take_append_getElem hlt
      have ha := hards_app (l := g.links.take i) (x := g.links[i])
      rw [ht] at ha
      by_cases d1 : g.links[i].target = []
      · rw [if_pos d1] at ha
        have c2 : (hards (g.links.take i)).length + 1 ≤ lim := by unfold lim; omega
        simp -implicitDefEqProofs [hlt, hw, lkV, d1, rowI, c2, Next, ha]
      · rw [if_neg d1] at ha
        simp -implicitDefEqProofs [hlt, hw, lkV, d1, rowI, Next, ha]
    · have : i = g.links.length := by omega
      subst this
      simp -implicitDefEqProofs [rowI]
end Go.VS
end
section
namespace Go.VS
set_option linter.unusedSimpArgs false

/-- How many of the numbers 1 to n are not in l. -/
def mu : Nat → List Int → Nat
  | 0, _ => 0
  | n + 1, l => (if ((n : Int) + 1) ∈ l then 0 else 1) + mu n l
theorem mu_mono {l l' : List Int} (h : ∀ x, x ∈ l → x ∈ l') : ∀ n, mu n l' ≤ mu n l
  | 0 => Nat.le_refl _
  | n + 1 => by
    have ih := mu_mono h n
    unfold mu
    by_cases c : ((n : Int) + 1) ∈ l
    · rw [if_pos c, if_pos (h _ c)]; omega
    · rw [if_neg c]; split <;> omega
theorem mu_add {l : List Int} {k : Int} (h1 : 1 ≤ k) (h : k ∉ l) : ∀ n : Nat, k ≤ n → mu n (l ++ [k]) + 1 ≤ mu n l
  | 0, h2 => by omega
  | n + 1, h2 => by
    unfold mu
    by_cases c : k = (n : Int) + 1
    · have hm := mu_mono (l := l) (l' := l ++ [k]) (fun x hx => List.mem_append_left _ hx) n
      rw [if_pos (by rw [← c]; simp), if_neg (by rw [← c]; exact h)]; omega
    · have ih := mu_add h1 h n (by push_cast at h2; omega)
      by_cases c2 : ((n : Int) + 1) ∈ l
      · rw [if_pos (List.mem_append_left _ c2), if_pos c2]; omega
      · rw [if_neg (by simp [c2]; exact fun e => c e.symm), if_neg c2]; omega
def un (l : List Int) : Nat := mu 255 l
theorem un_mono {l l' : List Int} (h : ∀ x, x ∈ l → x ∈ l') : un l' ≤ un l := mu_mono h 255
theorem un_add {l : List Int} {k : Int} (h1 : 1 ≤ k) (h2 : k ≤ 255) (h : k ∉ l) : un (l ++ [k]) + 1 ≤ un l := mu_add h1 h 255 h2
theorem mu_nil : ∀ n, mu n [] = n
  | 0 => rfl
  | n + 1 => by unfold mu; rw [mu_nil n, if_neg (by simp)]; omega
theorem un_nil : un [] = 255 := mu_nil 255
attribute [irreducible] un
def dIn (k : Int) : Nat := if 1 ≤ k ∧ k ≤ 255 then 0 else 1
def visitF (p : Pr) : Nat → List Int → Int → List Int
  | 0, l, _ => l
  | n + 1, l, k => if k ∈ l then l else (p.tg k).foldl (visitF p n) (l ++ [k])
theorem tg_in {p : Pr} {k x : Int} (h : x ∈ p.tg k) : dIn x = 0 := by
  unfold Pr.tg at h
  split at h
  · cases h
  · rename_i g e
    unfold dIn
    rw [if_pos (hards_in (grp_facts e) h)]
theorem foldl_sub {f : List Int → Int → List Int} (hf : ∀ l k x, x ∈ l → x ∈ f l k) : ∀ (ks l : List Int) (x : Int), x ∈ l → x ∈ ks.foldl f l
  | [], _, _, h => h
  | k :: ks, l, x, h => foldl_sub hf ks (f l k) x (hf _ _ _ h)
theorem visitF_sub {p : Pr} : ∀ (n : Nat) (l : List Int) (k x : Int), x ∈ l → x ∈ visitF p n l k
  | 0, _, _, _, h => h
  | n + 1, l, k, x, h => by
    unfold visitF
    split
    · exact h
    · exact foldl_sub (visitF_sub n) _ _ _ (List.mem_append_left _ h)
theorem foldl_len {f : List Int → Int → List Int} (hf : ∀ l k, (f l k).length + un (f l k) ≤ l.length + un l + dIn k) :
    ∀ (ks l : List Int), (∀ x, x ∈ ks → dIn x = 0) → (ks.foldl f l).length + un (ks.foldl f l) ≤ l.length + un l
  | [], l, _ => Nat.le_refl _
  | k :: ks, l, h => by
    have h1 := foldl_len hf ks (f l k) (fun x hx => h x (List.mem_cons_of_mem _ hx))
    have h2 := hf l k
    rw [h k (by simp)] at h2
    simp only [List.foldl_cons]
    omega
theorem app_mu {l : List Int} {k : Int} (h : k ∉ l) : (l ++ [k]).length + un (l ++ [k]) ≤ l.length + un l + dIn k ∧ un (l ++ [k]) + 1 ≤ un l + dIn k := by
  rw [List.length_append]
  unfold dIn
  simp only [List.length_singleton]
  split
  · rename_i c
    have := un_add c.1 c.2 h
    omega
  · have := un_mono (l := l) (l' := l ++ [k]) (fun x hx => List.mem_append_left _ hx)
    omega
theorem visitF_len {p : Pr} : ∀ (n : Nat) (l : List Int) (k : Int), (visitF p n l k).length + un (visitF p n l k) ≤ l.length + un l + dIn k
  | 0, l, k => by unfold visitF; omega
  | n + 1, l, k => by
    unfold visitF
    split
    · omega
    · rename_i c
      have h1 := foldl_len (visitF_len (p := p) n) (p.tg k) (l ++ [k]) (fun x hx => tg_in hx)
      have h2 := app_mu c
      omega
theorem take_succ_foldl {f : List Int → Int → List Int} {ks l : List Int} {i : Nat} (h : i < ks.length) : (ks.take (i + 1)).foldl f l = f ((ks.take i).foldl f l) ks[i] := by
  rw [← List.take_append_getElem h, List.foldl_append]; rfl

set_option maxHeartbeats 1000000 in
theorem visit_call (q : Bool) (p : Pr) (h : p.Ok) : ∀ (n : Nat) (l : List Int) (k : Int), un l + dIn k < n → l.length + un l + dIn k ≤ 256 → ∀ K : Out → Prop,
    Call prog 61 ⟨[.vp (prC q p), .sl 0 0 l.length false, .i .i64 k], [], [rowI l]⟩ K = K (.sl 0 0 (visitF p n l k).length false, [], [rowI (visitF p n l k)])
  | 0, l, k, h1, h2, K => by omega
  | n + 1, l, k, h1, h2, K => by
    refine Call_det ?_ K
    rw [Call_sp (p := prog) (f := 61) rfl _ _ _ rfl (by decide)]
    have e0 := fun K => Contains_call false l k (by unfold lim; omega) K
    have e1 := fun K => targets_call q p h k K
    unfold visitF
    by_cases c0 : k ∈ l
    · rw [if_pos c0]
      simp -implicitDefEqProofs [e0, c0, rowI]
    · rw [if_neg c0]
      have c2 : l.length + 1 ≤ lim := by unfold lim; omega
      have am := app_mu c0
      unfold tgOut at e1
      cases c1 : p.grp k with
      | error c =>
        simp only [c1] at e1
        have ht : p.tg k = [] := by unfold Pr.tg; rw [c1]
        rw [ht]
        simp -implicitDefEqProofs [e0, e1, c0, c2, rowI]
        refine WL_for (fun i => ⟨sp 31 [(0, .vp (prC q p)), (1, .sl 0 0 (l ++ [k]).length false), (19, .nil), (20, .i .i64 0), (21, .i .i64 i)], [], [rowI (l ++ [k])]⟩) 0 (fun _ => True) _ (by simp -implicitDefEqProofs [rowI]) trivial ?_
        intro i hi _
        have : i = 0 := by omega
        subst this
        simp -implicitDefEqProofs [rowI]
      | ok g =>
        simp only [c1] at e1
        have ht : p.tg k = hards g.links := by unfold Pr.tg; rw [c1]
        have hi := fun x => tg_in (p := p) (k := k) (x := x)
        rw [ht] at hi ⊢
        simp -implicitDefEqProofs [e0, e1, c0, c2, rowI]
        refine WL_for (fun i => ⟨sp 31 [(0, .vp (prC q p)), (1, .sl 0 0 (((hards g.links).take i).foldl (visitF p n) (l ++ [k])).length false), (19, .sl 1 0 (hards g.links).length false), (20, .i .i64 (hards g.links).length), (21, .i .i64 i)], [],
          [rowI (((hards g.links).take i).foldl (visitF p n) (l ++ [k])), rowI (hards g.links)]⟩) (hards g.links).length (fun _ => True) _ (by simp -implicitDefEqProofs [rowI]) trivial ?_
        intro i hi2 _
        have hl := hards_len g.links
        have hg := (lksOk_facts (grp_facts c1)).1
        by_cases hlt : i < (hards g.links).length
        · have hw := wrap_i64 (n := (i : Int) + 1) (by omega) (by omega)
          have hx := hi _ (List.getElem_mem hlt)
          have b1 := foldl_len (visitF_len (p := p) n) ((hards g.links).take i) (l ++ [k]) (fun x hx => hi x (List.mem_of_mem_take hx))
          have b2 := un_mono (fun x hx => foldl_sub (visitF_sub (p := p) n) ((hards g.links).take i) (l ++ [k]) x hx)
          have e2 := fun K => visit_call q p h n (((hards g.links).take i).foldl (visitF p n) (l ++ [k])) (hards g.links)[i] (by omega) (by omega) K
          have hs := take_succ_foldl (f := visitF p n) (l := l ++ [k]) hlt
          rw [rowI] at e2
          rw [← hs] at e2
          simp -implicitDefEqProofs [hlt, hw, rowI, e2, Next]
        · have : i = (hards g.links).length := by omega
          subst this
          rw [List.take_length]
          simp -implicitDefEqProofs [rowI]
end Go.VS
end
section
namespace Go.VS
set_option linter.unusedSimpArgs false

set_option maxHeartbeats 1000000 in
theorem l28Walk_call (q : Bool) (p : Pr) (h : p.Ok) : ∀ (n : Nat) (l : List Int) (k : Int), un l + dIn k < n → l.length + un l + dIn k ≤ 256 → ∀ K : Out → Prop,
    Call prog 59 ⟨[.vp (prC q p), .sl 0 0 l.length false, .i .i64 k], [], [rowI l]⟩ K = K (.sl 0 0 (visitF p n l k).length false, [], [rowI (visitF p n l k)])
  | 0, l, k, h1, h2, K => by omega
  | n + 1, l, k, h1, h2, K => by
    refine Call_det ?_ K
    rw [Call_sp (p := prog) (f := 59) rfl _ _ _ rfl (by decide)]
    have e0 := fun K => l00Has_call false l k (by unfold lim; omega) K
    have e1 := fun K => l17Read_call q p h k K
    unfold visitF
    by_cases c0 : k ∈ l
    · rw [if_pos c0]
      simp -implicitDefEqProofs [e0, c0, rowI]
    · rw [if_neg c0]
      have c2 : l.length + 1 ≤ lim := by unfold lim; omega
      have am := app_mu c0
      unfold sgrpOut at e1
      cases c1 : p.grp k with
      | error c =>
        simp only [c1] at e1
        have ht : p.tg k = [] := by unfold Pr.tg; rw [c1]
        have hc : ¬ c = 0 := by have := grp_code c1; omega
        rw [ht]
        simp -implicitDefEqProofs [e0, e1, c0, c2, hc, rowI]
      | ok g =>
        simp only [c1] at e1
        have ht : p.tg k = hards g.links := by unfold Pr.tg; rw [c1]
        have hi := fun x => tg_in (p := p) (k := k) (x := x)
        rw [ht] at hi ⊢
        have hg := (lksOk_facts (grp_facts c1)).1
        simp -implicitDefEqProofs [e0, e1, c0, c2, rowI]
        refine WL_for (fun i => ⟨sp 51 [(0, .vp (prC q p)), (1, .sl 3 0 ((hards (g.links.take i)).foldl (visitF p n) (l ++ [k])).length false), (7, .ptr 0 0), (9, .i .i64 i)], [[.i .i64 g.hd.kind, .i .i64 g.hd.refs, .sl 0 0 g.hd.msgs.length false, .sl 1 0 g.heap.length false, .sl 2 0 g.links.length false]],
          [.row 3 false (g.hd.msgs.map msV), .row 1 false (g.heap.map .s), .row 3 false (g.links.map lkV), rowI ((hards (g.links.take i)).foldl (visitF p n) (l ++ [k]))]⟩) g.links.length (fun _ => True) _ (by simp -implicitDefEqProofs [rowI, hards]) trivial ?_
        intro i hi2 _
        by_cases hlt : i < g.links.length
        · have hw := wrap_i64 (n := (i : Int) + 1) (by omega) (by omega)
          have ha := hards_app (l := g.links.take i) (x := g.links[i])
          rw [List.take_append_getElem hlt] at ha
          by_cases d1 : g.links[i].target = []
          · rw [if_pos d1] at ha
            have hm : ∀ x, x ∈ hards (g.links.take (i + 1)) → dIn x = 0 := fun x hx => hi x (by
              unfold hards at hx ⊢
              obtain ⟨y, hy, rfl⟩ := List.mem_map.1 hx
              exact List.mem_map_of_mem (List.mem_filter.2 ⟨List.mem_of_mem_take (List.mem_filter.1 hy).1, (List.mem_filter.1 hy).2⟩))
            rw [ha] at hm
            have b1 := foldl_len (visitF_len (p := p) n) (hards (g.links.take i)) (l ++ [k]) (fun x hx => hm x (List.mem_append_left _ hx))
            have b2 := un_mono (fun x hx => foldl_sub (visitF_sub (p := p) n) (hards (g.links.take i)) (l ++ [k]) x hx)
            have b3 := hm g.links[i].block (by simp)
            have e2 := fun K => l28Walk_call q p h n ((hards (g.links.take i)).foldl (visitF p n) (l ++ [k])) g.links[i].block (by omega) (by omega) K
            have hs : (hards (g.links.take (i + 1))).foldl (visitF p n) (l ++ [k]) = visitF p n ((hards (g.links.take i)).foldl (visitF p n) (l ++ [k])) g.links[i].block := by
              rw [ha, List.foldl_append]; rfl
            rw [rowI] at e2
            rw [← hs] at e2
            simp -implicitDefEqProofs [hlt, hw, rowI, lkV, d1, e2, Next]
          · rw [if_neg d1] at ha
            simp -implicitDefEqProofs [hlt, hw, rowI, lkV, d1, ha, Next]
        · have : i = g.links.length := by omega
          subst this
          rw [List.take_length]
          simp -implicitDefEqProofs [rowI]
end Go.VS
end
section
namespace Go.VS
set_option linter.unusedSimpArgs false

set_option maxHeartbeats 1000000 in
theorem visit_nil (q : Bool) (p : Pr) (h : p.Ok) (k : Int) (K : Out → Prop) :
    Call prog 61 ⟨[.vp (prC q p), .nil, .i .i64 k], [], []⟩ K = K (.sl 0 0 (visitF p 257 [] k).length false, [], [rowI (visitF p 257 [] k)]) := by
  obtain ⟨n, hn⟩ : ∃ n, n = 256 := ⟨_, rfl⟩
  rw [show 257 = n + 1 by omega]
  refine Call_det ?_ K
  rw [Call_sp (p := prog) (f := 61) rfl _ _ _ rfl (by decide)]
  have e0 : ∀ K, Call prog 96 ⟨[.view true 1 [], .i .i64 k], [], []⟩ K = K (.b false, [], []) := fun K => Contains_call true [] k (by unfold lim; simp) K
  have e1 := fun K => targets_call q p h k K
  unfold visitF
  rw [if_neg (by simp)]
  have c2 : 1 ≤ lim := by unfold lim; omega
  have am := app_mu (l := []) (k := k) (by simp)
  have dk : dIn k ≤ 1 := by unfold dIn; split <;> omega
  rw [un_nil] at am
  unfold tgOut at e1
  cases c1 : p.grp k with
  | error c =>
    simp only [c1] at e1
    have ht : p.tg k = [] := by unfold Pr.tg; rw [c1]
    rw [ht]
    simp -implicitDefEqProofs [e0, e1, c2, rowI]
    refine WL_for (fun i => ⟨sp 31 [(0, .vp (prC q p)), (1, .sl 0 0 1 false), (19, .nil), (20, .i .i64 0), (21, .i .i64 i)], [], [rowI [k]]⟩) 0 (fun _ => True) _ (by simp -implicitDefEqProofs [rowI]) trivial ?_
    intro i hi _
    have : i = 0 := by omega
    subst this
    simp -implicitDefEqProofs [rowI]
  | ok g =>
    simp only [c1] at e1
    have ht : p.tg k = hards g.links := by unfold Pr.tg; rw [c1]
    have hi := fun x => tg_in (p := p) (k := k) (x := x)
    rw [ht] at hi ⊢
    simp -implicitDefEqProofs [e0, e1, c2, rowI]
    refine WL_for (fun i => ⟨sp 31 [(0, .vp (prC q p)), (1, .sl 0 0 (((hards g.links).take i).foldl (visitF p n) [k]).length false), (19, .sl 1 0 (hards g.links).length false), (20, .i .i64 (hards g.links).length), (21, .i .i64 i)], [],
      [rowI (((hards g.links).take i).foldl (visitF p n) [k]), rowI (hards g.links)]⟩) (hards g.links).length (fun _ => True) _ (by simp -implicitDefEqProofs [rowI]) trivial ?_
    intro i hi2 _
    have hl := hards_len g.links
    have hg := (lksOk_facts (grp_facts c1)).1
    simp only [List.nil_append] at am
    by_cases hlt : i < (hards g.links).length
    · have hw := wrap_i64 (n := (i : Int) + 1) (by omega) (by omega)
      have hx := hi _ (List.getElem_mem hlt)
      have b1 := foldl_len (visitF_len (p := p) n) ((hards g.links).take i) [k] (fun x hx => hi x (List.mem_of_mem_take hx))
      have b2 := un_mono (fun x hx => foldl_sub (visitF_sub (p := p) n) ((hards g.links).take i) [k] x hx)
      have a1 := am.1
      have a2 := am.2
      simp only [List.length_nil] at a1
      have e2 := fun K => visit_call q p h n (((hards g.links).take i).foldl (visitF p n) [k]) (hards g.links)[i] (by omega) (by omega) K
      have hs := take_succ_foldl (f := visitF p n) (l := [k]) hlt
      rw [rowI] at e2
      rw [← hs] at e2
      simp -implicitDefEqProofs [hlt, hw, rowI, e2, Next]
    · have : i = (hards g.links).length := by omega
      subst this
      rw [List.take_length]
      simp -implicitDefEqProofs [rowI]
def walkF (p : Pr) : List Int := if p.root = 0 then [] else visitF p 257 [] p.root
theorem walkF_len {p : Pr} : (walkF p).length ≤ 256 := by
  unfold walkF
  split
  · simp
  · have := visitF_len (p := p) 257 [] p.root
    have dk : dIn p.root ≤ 1 := by unfold dIn; split <;> omega
    rw [un_nil] at this
    simp only [List.length_nil] at this
    omega
def walkOut (p : Pr) : Out := if p.root = 0 then (.nil, [], []) else (.sl 0 0 (walkF p).length false, [], [rowI (walkF p)])
theorem pwalk_call (q : Bool) (p : Pr) (h : p.Ok) (K : Out → Prop) : Call prog 28 ⟨[.vp (prC q p)], [], []⟩ K = K (walkOut p) := by
  refine Call_det ?_ K
  rw [Call_sp (p := prog) (f := 28) rfl _ _ _ rfl (by decide)]
  have e0 := fun K => root_call q p h K
  have e1 := fun K => visit_nil q p h p.root K
  unfold walkOut walkF
  by_cases c0 : p.root = 0
  · rw [c0] at e0
    simp -implicitDefEqProofs [e0, c0]
  · simp -implicitDefEqProofs [e0, e1, c0, rowI]
theorem l28All_call (q : Bool) (p : Pr) (h : p.Ok) (K : Out → Prop) : Call prog 27 ⟨[.vp (prC q p)], [], []⟩ K = K (.sl 0 0 (walkF p).length false, [], [rowI (walkF p)]) := by
  refine Call_det ?_ K
  rw [Call_sp (p := prog) (f := 27) rfl _ _ _ rfl (by decide)]
  have e0 := fun K => l13Root_call q p h K
  have e1 : ∀ K, Call prog 59 ⟨[.vp (prC q p), .sl 0 0 0 false, .i .i64 p.root], [], [.row 1 false []]⟩ K = K (.sl 0 0 (visitF p 257 [] p.root).length false, [], [rowI (visitF p 257 [] p.root)]) := by
    intro K
    have dk : dIn p.root ≤ 1 := by unfold dIn; split <;> omega
    exact l28Walk_call q p h 257 [] p.root (by rw [un_nil]; omega) (by rw [un_nil]; simp only [List.length_nil]; omega) K
  unfold walkF
  by_cases c0 : p.root = 0
  · rw [c0] at e0
    simp -implicitDefEqProofs [e0, c0, rowI]
  · simp -implicitDefEqProofs [e0, e1, c0, rowI]
theorem WalkStore_call (q : Bool) (p : Pr) (h : p.sm) (K : Out → Prop) : Call prog 6 ⟨[.agg (prC q p)], [], []⟩ K =
    K (if p.ok = true then (.tup [(walkOut p).1, .i .i64 0], [], (walkOut p).2.2) else (.tup [.nil, .i .i64 1], [], [])) := by
  refine Call_det ?_ K
  rw [Call_sp (p := prog) (f := 6) rfl _ _ _ rfl (by decide)]
  have e0 := fun K => ValidPager_call q p h K
  cases c0 : p.ok with
  | false => rw [c0] at e0; simp -implicitDefEqProofs [e0]
  | true =>
    rw [c0] at e0
    have e1 := fun K => pwalk_call q p (Pr.ok_facts c0) K
    unfold walkOut at e1 ⊢
    by_cases c1 : p.root = 0
    · simp only [if_pos c1] at e1
      simp -implicitDefEqProofs [e0, e1, c1]
    · simp only [if_neg c1] at e1
      simp -implicitDefEqProofs [e0, e1, c1, rowI]
theorem sWalkStore_call (q : Bool) (p : Pr) (h : p.sm) (K : Out → Prop) : Call prog 5 ⟨[.agg (prC q p)], [], []⟩ K =
    K (if p.ok = true then (.tup [.sl 0 0 (walkF p).length false, .i .i64 0], [], [rowI (walkF p)]) else (.tup [.nil, .i .i64 1], [], [])) := by
  refine Call_det ?_ K
  rw [Call_sp (p := prog) (f := 5) rfl _ _ _ rfl (by decide)]
  have e0 := fun K => l12Ok_call q p h K
  cases c0 : p.ok with
  | false => rw [c0] at e0; simp -implicitDefEqProofs [e0]
  | true =>
    rw [c0] at e0
    have e1 := fun K => l28All_call q p (Pr.ok_facts c0) K
    simp -implicitDefEqProofs [e0, e1, rowI]
end Go.VS
end
