/-
  slices.Insert: the cells of the row that comes of it.
-/
import Derived.Test.YtdnblconoegeaaaGreatDoorVxK3
import Derived.Test.YtdnblconoegeaaaGreatDoorVxI2
import Derived.Test.YtdnblconoegeaaaGreatDoorVxI3
set_option linter.all false
namespace Go.VS
open Go Go.Proofs Go.RowKit
set_option linter.unusedSimpArgs false

def insV (cur : Array Value) (vs : List Value) (i z j : Nat) : Value := if j < i * z then cur.getD j undef else if j < i * z + z then vs.getD (j - i * z) undef else cur.getD (j - z) undef
def insTail (cur : Array Value) (i z n : Nat) : List Value := (cur.toList.drop (i * z)).take ((n - i) * z)
section
variable {cur : Array Value} {vs : List Value} {i z n : Nat}
theorem insTail_len (hi : i ≤ n) (hc : n * z ≤ cur.size) : (insTail cur i z n).length = n * z - i * z := by
  have := Nat.sub_mul n i z
  have h2 := Nat.mul_le_mul_right z hi
  rw [insTail, List.length_take, List.length_drop, Array.length_toList]; omega
theorem insTail_get (hi : i ≤ n) (hc : n * z ≤ cur.size) {j : Nat} (hj : j < n * z - i * z) : (insTail cur i z n)[j]? = cur[i * z + j]? := by
  have := Nat.sub_mul n i z
  rw [insTail, List.getElem?_take_of_lt (by omega), List.getElem?_drop, Array.getElem?_toList]
theorem ins_shift (hi : i ≤ n) (hc : n * z + z ≤ cur.size) (hv : vs.length = z) {j : Nat} (hj : j < n * z + z) : (arrSet (arrSet cur ((i + 1) * z) (insTail cur i z n)) (i * z) vs).getD j undef = insV cur vs i z j := by
  have e1 := Nat.succ_mul i z
  have h2 := Nat.mul_le_mul_right z hi
  have hl := insTail_len (cur := cur) hi (by omega : n * z ≤ cur.size)
  rw [Nat.succ_eq_add_one] at e1
  rw [arr_getD, e1, insV]
  split
  · rw [arrSet_out _ _ _ _ (by omega), arrSet_out _ _ _ _ (by omega), arr_getD]
  · split
    · obtain ⟨k, rfl⟩ : ∃ k, j = i * z + k := ⟨j - i * z, by omega⟩
      rw [arrSet_in _ _ _ _ (by rw [arrSet_size]; omega) (by omega), Nat.add_sub_cancel_left, List.getD_eq_getElem?_getD]
    · obtain ⟨k, rfl⟩ : ∃ k, j = i * z + z + k := ⟨j - (i * z + z), by omega⟩
      rw [arrSet_out _ _ _ _ (by omega), arrSet_in _ _ _ _ (by omega) (by omega), insTail_get hi (by omega) (by omega), arr_getD, show i * z + z + k - z = i * z + k by omega]
theorem ins_grow {B : Array Value} (hi : i ≤ n) (hc : n * z ≤ cur.size) (hB : n * z + z ≤ B.size) (hBc : ∀ j, j < i * z → B[j]? = cur[j]?) (hv : vs.length = z) {j : Nat} (hj : j < n * z + z) : (arrSet (arrSet B (i * z) vs) ((i + 1) * z) (insTail cur i z n)).getD j undef = insV cur vs i z j := by
  have e1 := Nat.succ_mul i z
  have h2 := Nat.mul_le_mul_right z hi
  have hl := insTail_len (cur := cur) hi hc
  rw [Nat.succ_eq_add_one] at e1
  rw [arr_getD, e1, insV]
  split
  · rename_i h
    rw [arrSet_out _ _ _ _ (by omega), arrSet_out _ _ _ _ (by omega), arr_getD, hBc _ h]
  · split
    · obtain ⟨k, rfl⟩ : ∃ k, j = i * z + k := ⟨j - i * z, by omega⟩
      rw [arrSet_out _ _ _ _ (by omega), arrSet_in _ _ _ _ (by omega) (by omega), Nat.add_sub_cancel_left, List.getD_eq_getElem?_getD]
    · obtain ⟨k, rfl⟩ : ∃ k, j = i * z + z + k := ⟨j - (i * z + z), by omega⟩
      rw [arrSet_in _ _ _ _ (by rw [arrSet_size]; omega) (by omega), insTail_get hi hc (by omega), arr_getD, show i * z + z + k - z = i * z + k by omega]
theorem ins_room (hc : n * z + z ≤ cur.size) (hv : vs.length = z) {j : Nat} (hj : j < n * z + z) : (arrSet cur (n * z) vs).getD j undef = insV cur vs n z j := by
  rw [arr_getD, insV]
  split
  · rw [arrSet_out _ _ _ _ (by omega), arr_getD]
  · obtain ⟨k, rfl⟩ : ∃ k, j = n * z + k := ⟨j - n * z, by omega⟩
    rw [arrSet_in _ _ _ _ (by omega) (by omega), Nat.add_sub_cancel_left, List.getD_eq_getElem?_getD]
theorem ins_end {olds : List Value} {rest : Array Value} (hol : olds.length = n * z) (ho : ∀ j, j < n * z → olds[j]? = cur[j]?) (hv : vs.length = z) {j : Nat} (hj : j < n * z + z) : (olds.toArray ++ vs.toArray ++ rest).getD j undef = insV cur vs n z j := by
  rw [show olds.toArray ++ vs.toArray = (olds ++ vs).toArray by simp, getD_app (by rw [List.length_append]; omega), insV]
  split
  · rename_i h
    rw [getD_list_app (by omega), List.getD_eq_getElem?_getD, ho _ h, arr_getD]
  · rw [List.getD_eq_getElem?_getD, List.getElem?_append_right (by omega), hol, List.getD_eq_getElem?_getD]
theorem ins_vals {R : V → Value → Prop} {xs : List V} {v : V} (hx : ∀ x, x ∈ xs → x.cells.length = z) (hv : v.cells.length = z) (hi : i ≤ xs.length) (h1 : ∀ j u, (flat xs)[j]? = some u → R u (cur.getD j undef)) (h2 : ∀ j u, v.cells[j]? = some u → R u (vs.getD j undef)) :
    ∀ j u, (flat (xs.take i ++ v :: xs.drop i))[j]? = some u → R u (insV cur vs i z j) := by
  intro j u hj
  have hl := flat_length hx
  have hle := Nat.mul_le_mul_right z hi
  rw [flat_append, flat_cons, flat_take xs i hx, flat_drop xs i hx] at hj
  have htl : ((flat xs).take (i * z)).length = i * z := by rw [List.length_take]; omega
  rw [insV]
  split
  · rename_i h
    rw [List.getElem?_append_left (by omega), List.getElem?_take_of_lt h] at hj
    exact h1 _ _ hj
  · rw [List.getElem?_append_right (by omega), htl] at hj
    split
    · rw [List.getElem?_append_left (by omega)] at hj
      exact h2 _ _ hj
    · rw [List.getElem?_append_right (by omega), hv, List.getElem?_drop] at hj
      have := h1 _ _ hj
      rw [show j - z = i * z + (j - i * z - z) by omega]
      exact this
end
end Go.VS
