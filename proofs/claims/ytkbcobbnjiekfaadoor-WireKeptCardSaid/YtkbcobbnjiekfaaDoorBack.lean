/- Plain law: what is written is read as it was, and what is read is written as it stood. -/
import Derived.Test.YtkbcobbnjiekfaaDoorReadL
import Derived.Test.YtkbcobbnjiekfaaDoorWireL
namespace Go.Proofs.YtkbcobbnjiekfaaDoor
open Go Go.RowKit
section
variable {bs t : List Int} {p : Nat}
theorem drop_add {a b : List Int} (h : bs.drop p = a ++ b) : bs.drop (p + a.length) = b := by
  rw [← List.drop_drop, h, List.drop_left]
theorem drop_len {a b : List Int} (h : bs.drop p = a ++ b) : bs.length - p = a.length + b.length := by
  have := congrArg List.length h
  rw [List.length_drop, List.length_append] at this
  exact this
theorem num_read {n : Int} (h : bs.drop p = num8 n ++ t) (h0 : -9223372036854775808 ≤ n) (h1 : n ≤ 9223372036854775807) : numC bs p = 0 ∧ numX bs p = n ∧ bs.drop (p + 8) = t := by
  have hl := drop_len h
  rw [num8_length] at hl
  refine ⟨by rw [numC, if_neg (by omega)], ?_, by have := drop_add h; rw [num8_length] at this; exact this⟩
  rw [numX, h, List.take_left' (num8_length n)]
  exact spell_num8 h0 h1
theorem count_read {n : Nat} {most : Int} (h : bs.drop p = count4 n ++ t) (h1 : (n : Int) < 4294967296) : textN bs p = n ∧ countC bs p most = (if (n : Int) > most then 2 else 0) ∧ bs.drop (p + 4) = t := by
  have hl := drop_len h
  rw [count4_length] at hl
  have e : spell64 ((bs.drop p).take 4) = n := by
    rw [h, List.take_left' (count4_length n)]
    exact spell_count4 (by omega) h1
  refine ⟨by rw [textN, e]; exact Int.toNat_natCast n, ?_, by have := drop_add h; rw [count4_length] at this; exact this⟩
  rw [countC, if_neg (by omega), e]
theorem text_read {s : List Int} (h : bs.drop p = textB s ++ t) (hs : s.length ≤ 65536) : textC bs p = 0 ∧ textX bs p = s ∧ textN bs p = s.length ∧ bs.drop (p + 4 + textN bs p) = t := by
  rw [textB, List.append_assoc] at h
  obtain ⟨h1, h2, h3⟩ := count_read (most := 65536) h (by omega)
  rw [if_neg (by omega)] at h2
  have hl := drop_len h3
  refine ⟨?_, ?_, h1, ?_⟩
  · rw [textC, if_neg (by simp [h2]), if_neg (by rw [h1]; omega)]
  · rw [textX, h1, h3, List.take_left' rfl]
  · have := drop_add h3
    rw [h1]
    exact this
theorem nums_run {l : List Int} : ∀ {p : Nat}, bs.drop p = l.flatMap num8 ++ t → (∀ y ∈ l, -9223372036854775808 ≤ y ∧ y ≤ 9223372036854775807) → ∃ q, numsRun bs l.length p = (l, q, 0) ∧ bs.drop q = t := by
  induction l with
  | nil => intro p h _; exact ⟨p, rfl, by simpa using h⟩
  | cons x r ih =>
    intro p h hw
    rw [List.flatMap_cons, List.append_assoc] at h
    obtain ⟨h1, h2, h3⟩ := num_read h (hw x List.mem_cons_self).1 (hw x List.mem_cons_self).2
    obtain ⟨q, hq, hd⟩ := ih h3 (fun y hy => hw y (List.mem_cons_of_mem _ hy))
    refine ⟨q, ?_, hd⟩
    rw [List.length_cons, numsRun, rowRun_on h1]
    rw [numsRun] at hq
    rw [hq, h2]
theorem list_run {l : List (List Int)} : ∀ {p : Nat}, bs.drop p = l.flatMap textB ++ t → (∀ s ∈ l, s.length ≤ 65536) → ∃ q, listRun bs l.length p = (l, q, 0) ∧ bs.drop q = t := by
  induction l with
  | nil => intro p h _; exact ⟨p, rfl, by simpa using h⟩
  | cons x r ih =>
    intro p h hw
    rw [List.flatMap_cons, List.append_assoc] at h
    obtain ⟨h1, h2, h4, h3⟩ := text_read h (hw x List.mem_cons_self)
    obtain ⟨q, hq, hd⟩ := ih h3 (fun y hy => hw y (List.mem_cons_of_mem _ hy))
    refine ⟨q, ?_, hd⟩
    rw [List.length_cons, listRun, rowRun_on h1]
    rw [listRun] at hq
    rw [hq, h2]
theorem nums_read {l : List Int} (h : bs.drop p = numsB l ++ t) (hl : l.length ≤ 1024) (hw : ∀ y ∈ l, -9223372036854775808 ≤ y ∧ y ≤ 9223372036854775807) : numsC bs p = 0 ∧ numsX bs p = l ∧ bs.drop (numsP bs p) = t := by
  rw [numsB, List.append_assoc] at h
  obtain ⟨h1, h2, h3⟩ := count_read (most := 1024) h (by omega)
  rw [if_neg (by omega)] at h2
  obtain ⟨q, hq, hd⟩ := nums_run h3 hw
  refine ⟨?_, ?_, ?_⟩
  · rw [numsC, if_neg (by simp [h2]), h1, hq]
  · rw [numsX, h1, hq]
  · rw [numsP, h1, hq]; exact hd
theorem list_read {l : List (List Int)} (h : bs.drop p = listB l ++ t) (hl : l.length ≤ 1024) (hw : ∀ s ∈ l, s.length ≤ 65536) : listC bs p = 0 ∧ listX bs p = l ∧ bs.drop (listP bs p) = t := by
  rw [listB, List.append_assoc] at h
  obtain ⟨h1, h2, h3⟩ := count_read (most := 1024) h (by omega)
  rw [if_neg (by omega)] at h2
  obtain ⟨q, hq, hd⟩ := list_run h3 hw
  refine ⟨?_, ?_, ?_⟩
  · rw [listC, if_neg (by simp [h2]), h1, hq]
  · rw [listX, h1, hq]
  · rw [listP, h1, hq]; exact hd
/-! Back. -/
theorem num_kept (h8 : Bytes8 bs) (h : numC bs p = 0) : bs.drop p = num8 (numX bs p) ++ bs.drop (p + 8) := by
  have hl : ¬ bs.length - p < 8 := fun hl => by rw [numC, if_pos hl] at h; cases h
  rw [numX, num8_spell (h8.part p 8) (by rw [List.length_take, List.length_drop]; omega), ← List.drop_drop, List.take_append_drop]
theorem count_kept {most : Int} (h8 : Bytes8 bs) (h : countC bs p most = 0) : bs.drop p = count4 (textN bs p) ++ bs.drop (p + 4) ∧ (textN bs p : Int) ≤ most := by
  obtain ⟨h4, hm⟩ := countC_ok h
  have hlen : ((bs.drop p).take 4).length = 4 := by rw [List.length_take, List.length_drop]; omega
  have hb4 := spell4_bound (h8.part p 4) hlen
  have hn : spell64 ((bs.drop p).take 4) = (textN bs p : Int) := by unfold textN; omega
  rw [← hn]
  refine ⟨?_, hm⟩
  rw [count4_spell (h8.part p 4) hlen, ← List.drop_drop, List.take_append_drop]
theorem text_kept (h8 : Bytes8 bs) (h : textC bs p = 0) : bs.drop p = textB (textX bs p) ++ bs.drop (p + 4 + textN bs p) ∧ (textX bs p).length = textN bs p ∧ (textX bs p).length ≤ 65536 := by
  unfold textC at h
  split at h
  · rename_i h1; exact absurd h h1
  · rename_i h1
    split at h
    · cases h
    · rename_i h2
      have hc : countC bs p 65536 = 0 := by simpa using h1
      obtain ⟨h3, h4⟩ := count_kept h8 hc
      have hlen : (textX bs p).length = textN bs p := by rw [textX, List.length_take, List.length_drop]; omega
      refine ⟨?_, hlen, by omega⟩
      rw [textB, hlen, List.append_assoc]
      have e : bs.drop (p + 4 + textN bs p) = (bs.drop (p + 4)).drop (textN bs p) := by rw [List.drop_drop]
      rw [e, textX, List.take_append_drop]
      exact h3
theorem nums_kept1 (h8 : Bytes8 bs) : ∀ (n p : Nat), (numsRun bs n p).2.2 = 0 → (numsRun bs n p).1.length = n ∧ bs.drop p = (numsRun bs n p).1.flatMap num8 ++ bs.drop (numsRun bs n p).2.1
  | 0, p, _ => ⟨rfl, rfl⟩
  | n + 1, p, h => by
    by_cases hc : numC bs p = 0
    · rw [numsRun, rowRun_on hc] at h ⊢
      obtain ⟨h1, h2⟩ := nums_kept1 h8 n (p + 8) h
      rw [numsRun] at h1 h2
      refine ⟨by simp only [List.length_cons, h1], ?_⟩
      rw [List.flatMap_cons, List.append_assoc, ← h2]
      exact num_kept h8 hc
    · rw [numsRun, rowRun_stop hc] at h
      exact absurd h hc
theorem list_kept1 (h8 : Bytes8 bs) : ∀ (n p : Nat), (listRun bs n p).2.2 = 0 → (listRun bs n p).1.length = n ∧ bs.drop p = (listRun bs n p).1.flatMap textB ++ bs.drop (listRun bs n p).2.1 ∧ ∀ s ∈ (listRun bs n p).1, s.length ≤ 65536
  | 0, p, _ => ⟨rfl, rfl, fun s hs => by cases hs⟩
  | n + 1, p, h => by
    by_cases hc : textC bs p = 0
    · rw [listRun, rowRun_on hc] at h ⊢
      obtain ⟨h1, h2, h3⟩ := list_kept1 h8 n (p + 4 + textN bs p) h
      rw [listRun] at h1 h2 h3
      obtain ⟨k1, _, k3⟩ := text_kept h8 hc
      refine ⟨by simp only [List.length_cons, h1], ?_, ?_⟩
      · rw [List.flatMap_cons, List.append_assoc, ← h2]
        exact k1
      · intro s hs
        rcases List.mem_cons.1 hs with rfl | hs
        · exact k3
        · exact h3 s hs
    · rw [listRun, rowRun_stop hc] at h
      exact absurd h hc
theorem nums_kept (h8 : Bytes8 bs) (h : numsC bs p = 0) : bs.drop p = numsB (numsX bs p) ++ bs.drop (numsP bs p) ∧ (numsX bs p).length ≤ 1024 := by
  unfold numsC at h
  split at h
  · rename_i h1; exact absurd h h1
  · rename_i h1
    have hc : countC bs p 1024 = 0 := by simpa using h1
    obtain ⟨h3, h4⟩ := count_kept h8 hc
    obtain ⟨k1, k2⟩ := nums_kept1 h8 _ _ h
    refine ⟨?_, by rw [numsX, k1]; omega⟩
    rw [numsB, numsX, k1, List.append_assoc, numsP, ← k2]
    exact h3
theorem list_kept (h8 : Bytes8 bs) (h : listC bs p = 0) : bs.drop p = listB (listX bs p) ++ bs.drop (listP bs p) ∧ (listX bs p).length ≤ 1024 ∧ ∀ s ∈ listX bs p, s.length ≤ 65536 := by
  unfold listC at h
  split at h
  · rename_i h1; exact absurd h h1
  · rename_i h1
    have hc : countC bs p 1024 = 0 := by simpa using h1
    obtain ⟨h3, h4⟩ := count_kept h8 hc
    obtain ⟨k1, k2, k3⟩ := list_kept1 h8 _ _ h
    refine ⟨?_, by rw [listX, k1]; omega, k3⟩
    rw [listB, listX, k1, List.append_assoc, listP, ← k2]
    exact h3
end
end Go.Proofs.YtkbcobbnjiekfaaDoor
