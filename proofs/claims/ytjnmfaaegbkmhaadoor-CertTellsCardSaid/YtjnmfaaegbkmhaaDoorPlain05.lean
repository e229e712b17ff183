/- Plain law: when is a certificate right; what Make hands out is. -/
import Derived.Test.YtjnmfaaegbkmhaaDoorMake
namespace Go.Proofs.YtjnmfaaegbkmhaaDoor
open Go Go.RowKit
section
variable {G D : Int} {L : List (Int × Int)}
theorem chk1_zero {last x : Int} : chk1 G D L last x = 0 ↔ (last < x ∧ 0 ≤ memberOf G x ∧ (memberOf G x, D) ∈ L) := by
  unfold chk1
  split
  · rename_i h
    constructor
    · intro h1; simp at h1
    · intro h1; omega
  · rename_i h
    split
    · rename_i h2
      exact ⟨fun _ => ⟨by omega, by omega, h2⟩, fun _ => rfl⟩
    · rename_i h2
      exact ⟨fun h1 => by simp at h1, fun h1 => absurd h1.2.2 h2⟩
theorem chkErr_none : ∀ (xs : List Int) (last : Int) (i : Nat), chkErr G D L last i xs = none ↔ (List.Pairwise (· < ·) (last :: xs) ∧ ∀ x ∈ xs, 0 ≤ memberOf G x ∧ (memberOf G x, D) ∈ L)
  | [], last, i => by simp [chkErr]
  | x :: r, last, i => by
    unfold chkErr
    by_cases h : chk1 G D L last x = 0
    · rw [if_pos h, chkErr_none r x (i + 1)]
      have h1 := chk1_zero.1 h
      constructor
      · rintro ⟨hp, hm⟩
        refine ⟨List.pairwise_cons.2 ⟨?_, hp⟩, ?_⟩
        · intro y hy
          rcases List.mem_cons.1 hy with rfl | hy
          · exact h1.1
          · have := (List.pairwise_cons.1 hp).1 y hy
            omega
        · intro y hy
          rcases List.mem_cons.1 hy with rfl | hy
          · exact h1.2
          · exact hm y hy
      · rintro ⟨hp, hm⟩
        exact ⟨(List.pairwise_cons.1 hp).2, fun y hy => hm y (List.mem_cons_of_mem _ hy)⟩
    · rw [if_neg h]
      constructor
      · intro h1; cases h1
      · rintro ⟨hp, hm⟩
        exact absurd (chk1_zero.2 ⟨(List.pairwise_cons.1 hp).1 x List.mem_cons_self, hm x List.mem_cons_self⟩) h
theorem checkE_none {xs : List Int} {need : Int} : checkE G D L xs need = none ↔ (List.Pairwise (· < ·) ((-1) :: xs) ∧ (∀ x ∈ xs, 0 ≤ memberOf G x ∧ (memberOf G x, D) ∈ L) ∧ 1 ≤ need ∧ need ≤ (xs.length : Int)) := by
  cases hE : chkErr G D L (-1) 0 xs with
  | some p =>
    rw [checkE_some hE]
    constructor
    · intro h; cases h
    · rintro ⟨h1, h2, _⟩
      rw [(chkErr_none xs (-1) 0).2 ⟨h1, h2⟩] at hE
      cases hE
  | none =>
    obtain ⟨h1, h2⟩ := (chkErr_none xs (-1) 0).1 hE
    by_cases h : need < 1 ∨ (xs.length : Int) < need
    · rw [checkE_few hE h]
      constructor
      · intro h; cases h
      · rintro ⟨_, _, _, _⟩; omega
    · rw [checkE_ok hE h]
      exact ⟨fun _ => ⟨h1, h2, by omega, by omega⟩, fun _ => rfl⟩
theorem whoInts_mem {x : Int} (h : x ∈ whoInts G D L) : 0 ≤ x ∧ 0 ≤ memberOf G x ∧ (memberOf G x, D) ∈ L := by
  obtain ⟨i, hi, rfl⟩ := List.mem_map.1 h
  have := (List.mem_filter.1 hi).2
  simp only [decide_eq_true_eq] at this
  exact ⟨by omega, this⟩
theorem whoInts_rises : List.Pairwise (· < ·) (whoInts G D L) := by
  unfold whoInts whoTo
  rw [List.pairwise_map]
  exact (List.Pairwise.filter _ List.pairwise_lt_range).imp (fun h => by omega)
theorem make_right {need : Int} (h : ¬ (need < 1 ∨ ((whoInts G D L).length : Int) < need)) : checkE G D L ((whoInts G D L).take need.toNat) need = none := by
  refine checkE_none.2 ⟨List.pairwise_cons.2 ⟨?_, ?_⟩, ?_, by omega, ?_⟩
  · intro x hx
    have := (whoInts_mem (List.mem_of_mem_take hx)).1
    omega
  · exact whoInts_rises.sublist (List.take_sublist _ _)
  · intro x hx
    exact (whoInts_mem (List.mem_of_mem_take hx)).2
  · rw [List.length_take]; omega
theorem check_at {xs : List Int} {need : Int} (h : checkE G D L xs need = none) {k : Nat} {x : Int} (hx : xs[k]? = some x) : 0 ≤ memberOf G x ∧ (memberOf G x, D) ∈ L :=
  (checkE_none.1 h).2.1 x (List.mem_of_getElem? hx)
theorem check_lt {xs : List Int} {need : Int} (h : checkE G D L xs need = none) {k i : Nat} {x y : Int} (hk : xs[k]? = some x) (hi : xs[i]? = some y) (hki : k < i) : x < y := by
  have h1 := (List.pairwise_cons.1 (checkE_none.1 h).1).2
  obtain ⟨a, rfl⟩ := List.getElem?_eq_some_iff.1 hk
  obtain ⟨b, rfl⟩ := List.getElem?_eq_some_iff.1 hi
  exact List.pairwise_iff_getElem.1 h1 k i a b hki
theorem check_mono {L' : List (Int × Int)} {xs : List Int} {need need' : Int} (hL : ∀ p ∈ L, p ∈ L') (h : checkE G D L xs need = none) (h1 : 1 ≤ need') (h2 : need' ≤ (xs.length : Int)) : checkE G D L' xs need' = none := by
  obtain ⟨a, b, _, _⟩ := checkE_none.1 h
  exact checkE_none.2 ⟨a, fun x hx => ⟨(b x hx).1, hL _ (b x hx).2⟩, h1, h2⟩
theorem check_over {xs : List Int} {need : Int} (h : (xs.length : Int) < need) : ∃ p, checkE G D L xs need = some p := by
  cases hE : checkE G D L xs need with
  | some p => exact ⟨p, rfl⟩
  | none => have := (checkE_none.1 hE).2.2.2; omega
theorem check_under {xs : List Int} {need : Int} (h : need < 1) : ∃ p, checkE G D L xs need = some p := by
  cases hE : checkE G D L xs need with
  | some p => exact ⟨p, rfl⟩
  | none => have := (checkE_none.1 hE).2.2.1; omega
theorem chkErr_snoc : ∀ (xs : List Int) (last : Int) (i : Nat) (x : Int), chkErr G D L last i xs = none → chkErr G D L last i (xs ++ [x]) = if chk1 G D L (xs.getLast?.getD last) x = 0 then none else some ([((⟨#[115, 105, 103, 110, 101, 114]⟩ : ByteArray), ((i + xs.length : Nat) : Int))], chk1 G D L (xs.getLast?.getD last) x)
  | [], last, i, x, _ => by
    simp only [List.nil_append, chkErr, List.getLast?_nil, Option.getD_none, List.length_nil, Nat.add_zero]
    rfl
  | y :: r, last, i, x, h => by
    rw [chkErr] at h
    split at h
    · rename_i h0
      rw [List.cons_append, chkErr, if_pos h0, chkErr_snoc r y (i + 1) x h]
      have e1 : (y :: r).getLast?.getD last = r.getLast?.getD y := by
        cases r with
        | nil => rfl
        | cons z t => simp [List.getLast?_cons]
      rw [e1, show i + 1 + r.length = i + (y :: r).length by simp only [List.length_cons]; omega]
    · cases h
theorem check_snoc {xs : List Int} {need : Int} (h : checkE G D L xs need = none) {x last : Int} (hl : xs[xs.length - 1]? = some last) (h1 : 1 ≤ need) (h2 : need ≤ (xs.length : Int)) : checkE G D L (xs ++ [x]) need = none ↔ (last < x ∧ 0 ≤ memberOf G x ∧ (memberOf G x, D) ∈ L) := by
  have hE : chkErr G D L (-1) 0 xs = none := by
    cases hE : chkErr G D L (-1) 0 xs with
    | none => rfl
    | some p => rw [checkE_some hE] at h; cases h
  have e1 : xs.getLast?.getD (-1) = last := by rw [List.getLast?_eq_getElem?, hl]; rfl
  have hs := chkErr_snoc xs (-1) 0 x hE
  rw [e1] at hs
  rw [← chk1_zero]
  by_cases h0 : chk1 G D L last x = 0
  · rw [if_pos h0] at hs
    rw [checkE_ok hs (by simp only [List.length_append, List.length_singleton]; omega)]
    simp [h0]
  · rw [if_neg h0] at hs
    rw [checkE_some hs]
    simp [h0]
theorem check_twice {xs : List Int} {need need' x : Int} (h : checkE G D L xs need = none) (hx : xs[0]? = some x) : checkE G D L (x :: xs) need' = some ([((⟨#[115, 105, 103, 110, 101, 114]⟩ : ByteArray), 1)], 52) := by
  cases xs with
  | nil => cases hx
  | cons y r =>
    simp only [List.getElem?_cons_zero, Option.some.injEq] at hx
    subst hx
    obtain ⟨h1, h2, _, _⟩ := checkE_none.1 h
    have h3 := h2 y List.mem_cons_self
    have a0 : chk1 G D L (-1) y = 0 := chk1_zero.2 ⟨(List.pairwise_cons.1 h1).1 y List.mem_cons_self, h3⟩
    have a1 : chk1 G D L y y = 52 := chk1_who (Or.inr (Int.le_refl _))
    refine checkE_some ?_
    rw [chkErr, if_pos a0, chkErr, a1]
    simp
theorem signL_sub {who d : Int} {p : Int × Int} (h : p ∈ L) : p ∈ signL who d L := by
  unfold signL
  split
  · exact h
  · split
    · exact h
    · split
      · exact h
      · exact List.mem_append_left _ h
end
end Go.Proofs.YtjnmfaaegbkmhaaDoor
