/- Arguments opened: what the reader reads of them, in the words of the walks. -/
import Derived.Test.YtjnmfaaegbkmhaaSigned
import Derived.Test.YtjnmfaaegbkmhaaCheck
import Derived.ProofKit
import Derived.OpenShut
import Derived.ChangeOld
import Derived.Deep.Slices
import Derived.Deep.Fields
import Derived.Lib.SmallJoins
namespace Go.Proofs.Ytjnmfaaegbkmhaa
open Go Go.RowKit Go.ChangeShapes Go.WideShapes Go.Deep Go.Joins
section
variable {H : Type} {enc : TypeId × Value → H} {P : Program} {w : World} {base : Nat} {spare : Nat → Bool} {held : Bool}
theorem open_slice_fields {t e : TypeId} {fs : Array Field} {fuel : Nat} {cs : List Value} {x : DataW H × List MemPlace} (ht : P.underlying t = some (.slice e)) (he : P.underlying e = some (.struct fs))
    (hone : oneCellFields P fs = true) (hC : P.cellsOf e = fs.size) (h : DataW.trod enc P w base spare held fuel t cs = some x) :
    (cs = [.slice none 0 0] ∧ x = (.nil, [])) ∨
    ∃ (a : Addr) (len cap m : Nat) (D : Nat → DataW H) (Pl : Nat → List MemPlace), cs = [.slice (some a) len cap] ∧ base ≤ a.block ∧ len ≤ cap ∧ cap ≤ maxLen ∧ m = (if spare a.block then cap else len) ∧
      x = (.slice ((List.range len).map D) ((List.range (m - len)).map fun j => D (len + j)), MemPlace.row a (m * fs.size) ++ (List.range m).flatMap Pl) ∧
      ∀ i, i < m → ∃ (ys : List (DataW H × List MemPlace)) (n : Nat), D i = .agg (ys.map (·.1)) ∧ Pl i = ys.flatMap (·.2) ∧ ys.length = fs.size ∧
        ∀ (j : Nat) (f : Field), fs[j]? = some f → ∃ (v : Value) (y : DataW H × List MemPlace), w.cell? (a.add (i * fs.size + j)) = some v ∧ ys[j]? = some y ∧ DataW.trod enc P w base spare held n f.type [v] = some y := by
  rcases open_slice ht h with h0 | ⟨a, len, cap, m, n, D, Pl, hcs, hb, hl, hm, hmm, hx, hi⟩
  · exact .inl h0
  · refine .inr ⟨a, len, cap, m, D, Pl, hcs, hb, hl, hm, hmm, by rw [hC] at hx; exact hx, fun i him => ?_⟩
    obtain ⟨cs', hc, ht'⟩ := hi i him
    rw [hC] at hc
    obtain ⟨ys, n', hn', hy, hlen, hyl, hf⟩ := DataW.trod_struct he ht'
    obtain ⟨_, hcl, hat⟩ := World.cells?_some hc
    simp only [Prod.mk.injEq] at hy
    refine ⟨ys, n', hy.1, hy.2, hyl, fun j f hj => ?_⟩
    obtain ⟨ho, hk⟩ := hone_of hone j f hj
    have hjl : j < fs.size := (Array.getElem?_eq_some_iff.1 hj).1
    have hcell := hat j hjl
    have hv : cs'[j]? = some (cs'[j]'(by omega)) := List.getElem?_eq_getElem (by omega)
    have h1 := hf j f hj
    rw [ho, hk] at h1
    have hone' : (cs'.drop j).take 1 = [cs'[j]'(by omega)] := by
      rw [List.drop_eq_getElem_cons (by omega)]
      rfl
    rw [hone'] at h1
    have hys : ys[j]? = some (ys[j]'(by omega)) := List.getElem?_eq_getElem (by omega)
    refine ⟨_, _, ?_, hys, h1.trans hys⟩
    rw [← Go.Deep.add_add, hcell, hv]

theorem open_int_row {t e : TypeId} {fuel : Nat} {v : Value} {x : DataW H × List MemPlace} (ht : P.underlying t = some (.slice e)) (he : P.underlying e = some (.int .i64)) (hc : P.cellsOf e = 1)
    (h : DataW.trod enc P w base spare held fuel t [v] = some x) : ∃ (A : Option Addr) (cap : Nat) (xs : List Int), v = .slice A xs.length cap ∧ IntRow w w.heap.size A xs ∧ xs.length ≤ 9223372036854775807 ∧ ∀ y ∈ xs, (Lit.int .i64 y).wf = true := by
  rcases open_ints ht he hc h with ⟨hv, _⟩ | ⟨a, len, cap, zs, hv, _, hl, hm, hz, _, hcell, hwf⟩
  · cases hv
    exact ⟨none, 0, [], rfl, fun k x hx => by simp at hx, by simp, by simp⟩
  · cases hv
    have hzl : len ≤ zs.length := by rw [hz]; split <;> omega
    have hlen : (zs.take len).length = len := by rw [List.length_take]; omega
    refine ⟨some a, cap, zs.take len, by rw [hlen], ?_, by rw [hlen]; unfold maxLen at hm; omega, fun y hy => hwf y (List.mem_of_mem_take hy)⟩
    intro k x hx
    obtain ⟨hk, hx⟩ := List.getElem?_eq_some_iff.1 hx
    have hk' : k < len := by rw [hlen] at hk; exact hk
    have hc := hcell k (by omega)
    rw [List.getD_eq_getElem?_getD, List.getElem?_eq_getElem (by omega)] at hc
    rw [List.getElem_take] at hx
    obtain ⟨b, off, spot⟩ := a
    have hspot : spot = none := World.cell?_spot (hcell 0 (by omega))
    subst hspot
    have hadd : (⟨b, off, none⟩ : Addr).add k = ⟨b, off + k, none⟩ := by unfold Addr.add; split <;> simp_all
    rw [hadd] at hc
    refine ⟨b, off, rfl, World.block_lt_of_cell? w _ hc, ?_⟩
    rw [hc]
    simp [hx]
theorem open_seals {t e ik : TypeId} {f0 f1 f2 : Field} {fuel : Nat} {v : Value} {x : DataW H × List MemPlace} (ht : P.underlying t = some (.slice e)) (he : P.underlying e = some (.struct #[f0, f1, f2])) (hone : oneCellFields P #[f0, f1, f2] = true) (hC : P.cellsOf e = 3)
    (h0 : f0.type = ik) (h1 : f1.type = ik) (h2 : f2.type = ik) (hi : P.underlying ik = some (.int .i64))
    (h : DataW.trod enc P w base spare held fuel t [v] = some x) : ∃ (A : Option Addr) (cap : Nat) (l : List (Int × Int × Int)), v = .slice A l.length cap ∧ SealRow w A l ∧ l.length ≤ 9223372036854775807 := by
  rcases open_slice_fields ht he hone hC h with ⟨hv, _⟩ | ⟨a, len, cap, m, D, Pl, hv, _, hl, hm, hmm, _, hat⟩
  · cases hv
    exact ⟨none, 0, [], rfl, fun k s hs => by simp at hs, by simp⟩
  · cases hv
    have hml : len ≤ m := by rw [hmm]; split <;> omega
    have hat' : ∀ i, i < m → ∃ s : Int × Int × Int, w.cell? (a.add (i * 3)) = some (.int .i64 s.1) ∧ w.cell? (a.add (i * 3 + 1)) = some (.int .i64 s.2.1) ∧ w.cell? (a.add (i * 3 + 2)) = some (.int .i64 s.2.2) := by
      intro i hi'
      obtain ⟨ys, n, _, _, _, hf⟩ := hat i hi'
      obtain ⟨v0, y0, c0, _, t0⟩ := hf 0 f0 rfl
      obtain ⟨v1, y1, c1, _, t1⟩ := hf 1 f1 rfl
      obtain ⟨v2, y2, c2, _, t2⟩ := hf 2 f2 rfl
      rw [h0] at t0
      rw [h1] at t1
      rw [h2] at t2
      obtain ⟨n0, e0, _, _⟩ := DataW.trod_int hi t0
      obtain ⟨n1, e1, _, _⟩ := DataW.trod_int hi t1
      obtain ⟨n2, e2, _, _⟩ := DataW.trod_int hi t2
      cases e0
      cases e1
      cases e2
      exact ⟨(n0, n1, n2), c0, c1, c2⟩
    obtain ⟨s, hs⟩ : ∃ s : Nat → Int × Int × Int, ∀ i, i < m → w.cell? (a.add (i * 3)) = some (.int .i64 (s i).1) ∧ w.cell? (a.add (i * 3 + 1)) = some (.int .i64 (s i).2.1) ∧ w.cell? (a.add (i * 3 + 2)) = some (.int .i64 (s i).2.2) :=
      ⟨fun i => if h : i < m then (hat' i h).choose else (0, 0, 0), fun i h => by simp only [dif_pos h]; exact (hat' i h).choose_spec⟩
    have hlen : ((List.range len).map s).length = len := by simp
    refine ⟨some a, cap, (List.range len).map s, by rw [hlen], ?_, by rw [hlen]; unfold maxLen at hm; omega⟩
    intro k x hx
    rw [List.getElem?_map] at hx
    obtain ⟨i, hi', rfl⟩ := Option.map_eq_some_iff.1 hx
    obtain ⟨hk, rfl⟩ := List.getElem?_eq_some_iff.1 hi'
    simp only [List.length_range] at hk
    simp only [List.getElem_range]
    obtain ⟨c0, c1, c2⟩ := hs k (by omega)
    obtain ⟨b, off, spot⟩ := a
    have hspot : spot = none := World.cell?_spot (hs 0 (by omega)).1
    subst hspot
    have hadd : ∀ j, (⟨b, off, none⟩ : Addr).add j = ⟨b, off + j, none⟩ := fun j => by unfold Addr.add; split <;> simp_all
    rw [hadd] at c0 c1 c2
    exact ⟨b, off, rfl, World.block_lt_of_cell? w _ c0, c0, by rw [← Nat.add_assoc] at c1; exact c1, by rw [← Nat.add_assoc] at c2; exact c2⟩
end
end Go.Proofs.Ytjnmfaaegbkmhaa
