/- Plain law: all that is written of many things. -/
import Derived.Test.YtkbcobbnjiekfaaDoorEnc
import Derived.Test.YtkbcobbnjiekfaaDoorBack
import Derived.Test.YtkbcobbnjiekfaaDoorOpenB
namespace Go.Proofs.YtkbcobbnjiekfaaDoor
open Go Go.RowKit
def wall (ops : List OpD) : List Int × Option Nat := ops.foldl (fun st x => wput st.1 st.2 (encO x)) ([], none)
theorem wall_take {ops : List OpD} {k : Nat} {x : OpD} (h : ops[k]? = some x) : wall (ops.take (k + 1)) = wput (wall (ops.take k)).1 (wall (ops.take k)).2 (encO x) := by
  obtain ⟨h1, h2⟩ := List.getElem?_eq_some_iff.1 h
  rw [wall, List.take_succ_eq_append_getElem h1, h2, List.foldl_append]
  rfl
theorem wput_nil (bs : List Int) (bad : Option Nat) : wput bs bad (some []) = (bs, bad) := by cases bad <;> simp [wput]
def encD (x : OpD) : List Int := (encO x).getD []
theorem wall_from (ops : List OpD) : ∀ st : List Int × Option Nat, (ops.foldl (fun st x => wput st.1 st.2 (encO x)) st).2 = none → st.2 = none ∧ (∀ x ∈ ops, encO x = some (encD x)) ∧ (ops.foldl (fun st x => wput st.1 st.2 (encO x)) st).1 = st.1 ++ ops.flatMap encD := by
  induction ops with
  | nil => intro st h; exact ⟨h, (fun x hx => by cases hx), by simp⟩
  | cons x r ih =>
    intro st h
    rw [List.foldl_cons] at h ⊢
    obtain ⟨h1, h2, h3⟩ := ih _ h
    obtain ⟨bs, bad⟩ := st
    cases bad with
    | some a => cases h1
    | none =>
      cases he : encO x with
      | none => rw [he] at h1; cases h1
      | some e =>
        rw [he] at h3
        have hd : encD x = e := by rw [encD, he]; rfl
        refine ⟨rfl, ?_, ?_⟩
        · intro y hy
          rcases List.mem_cons.1 hy with rfl | hy
          · rw [hd]; exact he
          · exact h2 y hy
        · rw [List.flatMap_cons, hd, ← List.append_assoc]
          exact h3
theorem wall_none {ops : List OpD} (h : (wall ops).2 = none) : (∀ x ∈ ops, encO x = some (encD x)) ∧ (wall ops).1 = ops.flatMap encD := by
  obtain ⟨_, h2, h3⟩ := wall_from ops ([], none) h
  exact ⟨h2, h3.trans (List.nil_append _)⟩
theorem wall_length {ops : List OpD} {k : Nat} {x : OpD} (hx : ops[k]? = some x) (h : (wall (ops.take k)).1.length ≤ 8200 * k + wts (ops.take k)) : (wall (ops.take (k + 1))).1.length ≤ 8200 * (k + 1) + wts (ops.take (k + 1)) := by
  rw [wall_take hx]
  have h2 : wts (ops.take (k + 1)) = wts (ops.take k) + wt x := sum_take wt hx
  cases hb : (wall (ops.take k)).2 with
  | some a => simp only [wput]; omega
  | none =>
    cases he : encO x with
    | none => simp only [wput]; omega
    | some e =>
      have := enc_length he
      simp only [wput, List.length_append]
      omega
theorem bytes_append {a b : List Int} (ha : Bytes8 a) (hb : Bytes8 b) : Bytes8 (a ++ b) := fun x hx => (List.mem_append.1 hx).elim (ha x) (hb x)
theorem bytes_flat {α : Type} {f : α → List Int} {l : List α} (hf : ∀ x ∈ l, Bytes8 (f x)) : Bytes8 (l.flatMap f) := fun x hx => by
  obtain ⟨y, hy, h⟩ := List.mem_flatMap.1 hx
  exact hf y hy x h
theorem enc_bytes {x : OpD} (hx : OpOk x) {e : List Int} (h : encO x = some e) : Bytes8 e := by
  obtain ⟨_, h1, h2, _⟩ := hx
  unfold encO at h
  split at h
  · cases h; exact num8_bytes _
  · split at h
    · split at h
      · cases h; exact bytes_append (count4_bytes _) h1
      · cases h
    · split at h
      · unfold listO at h
        split at h
        · cases h; exact bytes_append (count4_bytes _) (bytes_flat fun s hs => bytes_append (count4_bytes _) (h2 s hs))
        · cases h
      · split at h
        · split at h
          · cases h; exact bytes_append (count4_bytes _) (bytes_flat fun y _ => num8_bytes y)
          · cases h
        · cases h; intro y hy; cases hy
theorem drop_flat {ops : List OpD} {k : Nat} {x : OpD} (h : ops[k]? = some x) : (ops.drop k).flatMap encD = encD x ++ (ops.drop (k + 1)).flatMap encD := by
  obtain ⟨h1, rfl⟩ := List.getElem?_eq_some_iff.1 h
  rw [List.drop_eq_getElem_cons h1, List.flatMap_cons]
theorem longs_false {l : List (List Int)} (h : longs l = false) : ∀ s ∈ l, s.length ≤ 65536 := by
  intro s hs
  rw [longs, List.any_eq_false] at h
  have := h s hs
  simp at this
  omega
end Go.Proofs.YtkbcobbnjiekfaaDoor
