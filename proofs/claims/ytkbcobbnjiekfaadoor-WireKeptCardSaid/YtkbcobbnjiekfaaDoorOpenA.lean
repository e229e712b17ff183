/- Arguments opened: rows of bytes, of numbers, of texts. -/
import Derived.Test.YtkbcobbnjiekfaaDoorBytes
import Derived.Test.YtkbcobbnjiekfaaDoorSpell
import Derived.ProofKit
import Derived.OpenShut
import Derived.ChangeOld
import Derived.Deep.Slices
import Derived.Deep.Fields
import Derived.Lib.SmallJoins
namespace Go.Proofs.YtkbcobbnjiekfaaDoor
open Go Go.RowKit Go.ChangeShapes Go.WideShapes Go.Deep Go.Joins
section
variable {H : Type} {enc : TypeId × Value → H} {P : Program} {w : World} {base : Nat} {spare : Nat → Bool} {held : Bool}
theorem open_kind_row {k : IntKind} {t e : TypeId} {fuel : Nat} {v : Value} {x : DataW H × List MemPlace} (ht : P.underlying t = some (.slice e)) (he : P.underlying e = some (.int k)) (hc : P.cellsOf e = 1)
    (h : DataW.trod enc P w base spare held fuel t [v] = some x) : ∃ (A : Option Addr) (cap : Nat) (xs : List Int), v = .slice A xs.length cap ∧ (∀ j y, xs[j]? = some y → ∃ b o, A = some ⟨b, o, none⟩ ∧ b < w.heap.size ∧ w.cell? ⟨b, o + j, none⟩ = some (.int k y)) ∧ xs.length ≤ 9223372036854775807 ∧ ∀ y ∈ xs, (Lit.int k y).wf = true := by
  rcases open_ints ht he hc h with ⟨hv, _⟩ | ⟨a, len, cap, zs, hv, _, hl, hm, hz, _, hcell, hwf⟩
  · cases hv
    exact ⟨none, 0, [], rfl, fun k x hx => by simp at hx, by simp, by simp⟩
  · cases hv
    have hzl : len ≤ zs.length := by rw [hz]; split <;> omega
    have hlen : (zs.take len).length = len := by rw [List.length_take]; omega
    refine ⟨some a, cap, zs.take len, by rw [hlen], ?_, by rw [hlen]; unfold maxLen at hm; omega, fun y hy => hwf y (List.mem_of_mem_take hy)⟩
    intro j x hx
    obtain ⟨hk, hx⟩ := List.getElem?_eq_some_iff.1 hx
    have hk' : j < len := by rw [hlen] at hk; exact hk
    have hc := hcell j (by omega)
    rw [List.getD_eq_getElem?_getD, List.getElem?_eq_getElem (by omega)] at hc
    rw [List.getElem_take] at hx
    obtain ⟨b, off, spot⟩ := a
    have hspot : spot = none := World.cell?_spot (hcell 0 (by omega))
    subst hspot
    rw [add_at] at hc
    refine ⟨b, off, rfl, World.block_lt_of_cell? w _ hc, ?_⟩
    rw [hc]
    simp [hx]
theorem bytes_wf {xs : List Int} (h : ∀ y ∈ xs, (Lit.int .u8 y).wf = true) : Bytes8 xs := by
  intro y hy
  have := h y hy
  have : 0 ≤ y ∧ y ≤ 255 := by simpa [Lit.wf, IntKind.min, IntKind.max, IntKind.signed, IntKind.bits] using this
  omega
theorem open_text_row {t e e2 : TypeId} {fuel : Nat} {v : Value} {x : DataW H × List MemPlace} (ht : P.underlying t = some (.slice e)) (he : P.underlying e = some (.slice e2)) (he2 : P.underlying e2 = some (.int .u8)) (hc : P.cellsOf e = 1) (hc2 : P.cellsOf e2 = 1)
    (h : DataW.trod enc P w base spare held fuel t [v] = some x) : ∃ (A : Option Addr) (cap : Nat) (l : List (List Int)), v = .slice A l.length cap ∧ TextRow w (fun k => k < w.heap.size) A l ∧ l.length ≤ 9223372036854775807 ∧ ∀ s ∈ l, Bytes8 s ∧ s.length ≤ 9223372036854775807 := by
  rcases open_slice ht h with ⟨hv, _⟩ | ⟨a, len, cap, m, n, D, Pl, hv, _, hl, hm, hmm, _, hat⟩
  · cases hv
    exact ⟨none, 0, [], rfl, fun k s hs => by simp at hs, by simp, by simp⟩
  · cases hv
    have hml : len ≤ m := by rw [hmm]; split <;> omega
    have hat' : ∀ i, i < m → ∃ s : List Int, (∃ A' cap', w.cell? (a.add i) = some (.slice A' s.length cap') ∧ ByteRow w (fun k => k < w.heap.size) A' s) ∧ Bytes8 s ∧ s.length ≤ 9223372036854775807 := by
      intro i hi'
      obtain ⟨cs', hcs, ht'⟩ := hat i hi'
      rw [hc, Nat.mul_one] at hcs
      obtain ⟨_, hcl, hcat⟩ := World.cells?_some hcs
      have hcell := hcat (i := 0) (by omega)
      obtain ⟨u, rfl⟩ : ∃ u, cs' = [u] := by
        match cs', hcl with
        | [u], _ => exact ⟨u, rfl⟩
      obtain ⟨A', cap', s, rfl, hr, hl', hw⟩ := open_kind_row he he2 hc2 ht'
      exact ⟨s, ⟨A', cap', by simpa [Addr.add] using hcell, hr⟩, bytes_wf hw, hl'⟩
    obtain ⟨s, hs⟩ : ∃ s : Nat → List Int, ∀ i, i < m → (∃ A' cap', w.cell? (a.add i) = some (.slice A' (s i).length cap') ∧ ByteRow w (fun k => k < w.heap.size) A' (s i)) ∧ Bytes8 (s i) ∧ (s i).length ≤ 9223372036854775807 :=
      ⟨fun i => if h : i < m then (hat' i h).choose else [], fun i h => by simp only [dif_pos h]; exact (hat' i h).choose_spec⟩
    have hlen : ((List.range len).map s).length = len := by simp
    refine ⟨some a, cap, (List.range len).map s, by rw [hlen], ?_, by rw [hlen]; unfold maxLen at hm; omega, ?_⟩
    · intro k x hx
      rw [List.getElem?_map] at hx
      obtain ⟨i, hi', rfl⟩ := Option.map_eq_some_iff.1 hx
      obtain ⟨hk, rfl⟩ := List.getElem?_eq_some_iff.1 hi'
      simp only [List.length_range] at hk
      simp only [List.getElem_range]
      obtain ⟨⟨A', cap', c0, hr⟩, _⟩ := hs k (by omega)
      obtain ⟨b, off, spot⟩ := a
      have hspot : spot = none := by obtain ⟨⟨_, _, c1, _⟩, _⟩ := hs 0 (by omega); exact World.cell?_spot (by simpa [Addr.add] using c1)
      subst hspot
      rw [add_at] at c0
      exact ⟨b, off, A', cap', rfl, World.block_lt_of_cell? w _ c0, c0, hr⟩
    · intro x hx
      obtain ⟨i, hi', rfl⟩ := List.mem_map.1 hx
      exact (hs i (by have := List.mem_range.1 hi'; omega)).2
end
end Go.Proofs.YtkbcobbnjiekfaaDoor
