/- wire: the Writer's functions for rows; Bytes. -/
import Derived.Test.YtcfanacfjcgnbaaGreatDoorWireT
namespace Go.Proofs.YtcfanacfjcgnbaaGreatDoor
open Go Go.RowKit
theorem flat_take {α : Type} (f : α → List Int) {l : List α} {k : Nat} {x : α} (h : l[k]? = some x) : (l.take (k + 1)).flatMap f = (l.take k).flatMap f ++ f x := by
  obtain ⟨hlt, rfl⟩ := List.getElem?_eq_some_iff.1 h
  rw [List.take_succ_eq_append_getElem hlt, List.flatMap_append]
  simp
theorem flat_le {α : Type} (f : α → List Int) (l : List α) (k : Nat) : ((l.take k).flatMap f).length ≤ (l.flatMap f).length := by
  have e : l.flatMap f = (l.take k).flatMap f ++ (l.drop k).flatMap f := by rw [← List.flatMap_append, List.take_append_drop]
  rw [e]
  simp
theorem flat_le1 {α : Type} (f : α → List Int) {l : List α} {k : Nat} {x : α} (h : l[k]? = some x) : ((l.take k).flatMap f).length + (f x).length ≤ (l.flatMap f).length := by
  have h1 := flat_take f h
  have h2 := flat_le f l (k + 1)
  rw [h1, List.length_append] at h2
  exact h2
theorem count4_length (n : Int) : (count4 n).length = 4 := rfl
theorem flat_num8 (l : List Int) : (l.flatMap num8).length = 8 * l.length := by
  induction l with
  | nil => rfl
  | cons x r ih => simp only [List.flatMap_cons, List.length_append, num8_length, ih, List.length_cons]; omega
theorem flat_textB (l : List (List Int)) : 4 * l.length ≤ (l.flatMap textB).length := by
  induction l with
  | nil => simp
  | cons x r ih => simp only [List.flatMap_cons, List.length_append, textB, count4_length, List.length_cons]; omega
def longs (l : List (List Int)) : Bool := l.any fun s => decide (65536 < s.length)
def listO (l : List (List Int)) : Option (List Int) := if l.length ≤ 1024 ∧ longs l = false then some (listB l) else none
end Go.Proofs.YtcfanacfjcgnbaaGreatDoor
