/- Plain law: what one thing is written as. -/
import Derived.Test.YtkbcobbnjiekfaaDoorWireL
import Derived.Test.YtkbcobbnjiekfaaDoorGreat
namespace Go.Proofs.YtkbcobbnjiekfaaDoor
open Go Go.RowKit
def kindOf (x : OpD) : Int := bits .and .i64 x.what 3
def encO (x : OpD) : Option (List Int) :=
  if kindOf x = 0 then some (num8 x.n) else if kindOf x = 1 then (if x.s.length ≤ 65536 then some (textB x.s) else none) else if kindOf x = 2 then listO x.l
  else if kindOf x = 3 then (if x.m.length ≤ 1024 then some (numsB x.m) else none) else some []
theorem textB_length (s : List Int) : (textB s).length = 4 + s.length := by simp [textB, count4_length]
theorem numsB_length (l : List Int) : (numsB l).length = 4 + 8 * l.length := by rw [numsB, List.length_append, count4_length, flat_num8]
theorem flat_text_length (l : List (List Int)) : (l.flatMap textB).length = 4 * l.length + lens l := by
  induction l with
  | nil => rfl
  | cons x r ih =>
    simp only [List.flatMap_cons, List.length_append, textB_length, ih, List.length_cons, lens, List.map_cons, List.sum_cons]
    omega
theorem listB_length (l : List (List Int)) : (listB l).length = 4 + 4 * l.length + lens l := by
  rw [listB, List.length_append, count4_length, flat_text_length]
  omega
theorem enc0 {x : OpD} (h : kindOf x = 0) : encO x = some (num8 x.n) := by rw [encO, if_pos h]
theorem enc1 {x : OpD} (h : kindOf x = 1) : encO x = if x.s.length ≤ 65536 then some (textB x.s) else none := by rw [encO, if_neg (by omega), if_pos h]
theorem enc2 {x : OpD} (h : kindOf x = 2) : encO x = listO x.l := by rw [encO, if_neg (by omega), if_neg (by omega), if_pos h]
theorem enc3 {x : OpD} (h : kindOf x = 3) : encO x = if x.m.length ≤ 1024 then some (numsB x.m) else none := by rw [encO, if_neg (by omega), if_neg (by omega), if_neg (by omega), if_pos h]
theorem enc4 {x : OpD} (h0 : kindOf x ≠ 0) (h1 : kindOf x ≠ 1) (h2 : kindOf x ≠ 2) (h3 : kindOf x ≠ 3) : encO x = some [] := by rw [encO, if_neg h0, if_neg h1, if_neg h2, if_neg h3]
theorem enc_length {x : OpD} {e : List Int} (h : encO x = some e) : e.length ≤ 8200 + wt x := by
  unfold encO at h
  split at h
  · cases h; rw [num8_length]; omega
  · split at h
    · split at h
      · cases h; rw [textB_length, wt]; omega
      · cases h
    · split at h
      · unfold listO at h
        split at h
        · rename_i hl
          cases h; rw [listB_length, wt]; omega
        · cases h
      · split at h
        · split at h
          · cases h; rw [numsB_length]; omega
          · cases h
        · cases h; simp
/-- All that is written so far: what it takes. -/
theorem small_bound {ops : List OpD} (h : Small ops) {k : Nat} {x : OpD} (hx : ops[k]? = some x) : k < 20000 ∧ wts (ops.take k) + wt x < 400000 := by
  have hlt := (List.getElem?_eq_some_iff.1 hx).1
  have h1 : wts (ops.take (k + 1)) ≤ wts ops := by
    have : wts ops = wts (ops.take (k + 1)) + wts (ops.drop (k + 1)) := by
      unfold wts
      rw [← List.sum_append, ← List.map_append, List.take_append_drop]
    omega
  have h2 : wts (ops.take (k + 1)) = wts (ops.take k) + wt x := sum_take wt hx
  unfold Small at h
  omega
end Go.Proofs.YtkbcobbnjiekfaaDoor
