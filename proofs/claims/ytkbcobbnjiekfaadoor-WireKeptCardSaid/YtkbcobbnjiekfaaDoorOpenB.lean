/- Arguments opened: things of layer 2. -/
import Derived.Test.YtkbcobbnjiekfaaDoorGreat
import Derived.Test.YtkbcobbnjiekfaaDoorOpenA
namespace Go.Proofs.YtkbcobbnjiekfaaDoor
open Go Go.RowKit Go.ChangeShapes Go.WideShapes Go.Deep Go.Joins
section
variable {H : Type} {enc : TypeId × Value → H} {P : Program} {w : World} {base : Nat} {spare : Nat → Bool} {held : Bool}
theorem open_slice_five {t e : TypeId} {fs : Array Field} {fuel : Nat} {cs : List Value} {x : DataW H × List MemPlace} (ht : P.underlying t = some (.slice e)) (he : P.underlying e = some (.struct fs))
    (hone : oneCellFields P fs = true) (hC : P.cellsOf e = fs.size) (h : DataW.trod enc P w base spare held fuel t cs = some x) :
    (cs = [.slice none 0 0] ∧ x = (.nil, [])) ∨
    ∃ (a : Addr) (len cap m : Nat), cs = [.slice (some a) len cap] ∧ len ≤ m ∧ len ≤ maxLen ∧
      ∀ i, i < m → ∃ (ys : List (DataW H × List MemPlace)) (n : Nat),
        ∀ (j : Nat) (f : Field), fs[j]? = some f → ∃ (v : Value) (y : DataW H × List MemPlace), w.cell? (a.add (i * fs.size + j)) = some v ∧ ys[j]? = some y ∧ DataW.trod enc P w base spare held n f.type [v] = some y := by
  rcases open_slice ht h with h0 | ⟨a, len, cap, m, n, D, Pl, hcs, hb, hl, hm, hmm, hx, hi⟩
  · exact .inl h0
  · refine .inr ⟨a, len, cap, m, hcs, by rw [hmm]; split <;> omega, by omega, fun i him => ?_⟩
    obtain ⟨cs', hc, ht'⟩ := hi i him
    rw [hC] at hc
    obtain ⟨ys, n', hn', hy, hlen, hyl, hf⟩ := DataW.trod_struct he ht'
    obtain ⟨_, hcl, hat⟩ := World.cells?_some hc
    refine ⟨ys, n', fun j f hj => ?_⟩
    obtain ⟨ho, hk⟩ := hone_of hone j f hj
    have hjl : j < fs.size := (Array.getElem?_eq_some_iff.1 hj).1
    have hcell := hat j hjl
    have hv : cs'[j]? = some (cs'[j]'(by omega)) := List.getElem?_eq_getElem (by omega)
    have h1 := hf j f hj
    rw [ho, hk] at h1
    have hone' : (cs'.drop j).take 1 = [cs'[j]'(by omega)] := by
      rw [List.drop_eq_getElem_cons (by omega)]
      rfl
    rw [hone'] at h1
    have hys : ys[j]? = some (ys[j]'(by omega)) := List.getElem?_eq_getElem (by omega)
    refine ⟨_, _, ?_, hys, h1.trans hys⟩
    rw [← Go.Deep.add_add, hcell, hv]
/-- Bounds of a thing that came in. -/
def OpOk (x : OpD) : Prop := (x.s.length ≤ 9223372036854775807 ∧ x.l.length ≤ 9223372036854775807 ∧ x.m.length ≤ 9223372036854775807) ∧ Bytes8 x.s ∧ (∀ s ∈ x.l, Bytes8 s) ∧ (∀ y ∈ x.m, -9223372036854775808 ≤ y ∧ y ≤ 9223372036854775807) ∧ -9223372036854775808 ≤ x.n ∧ x.n ≤ 9223372036854775807
theorem open_ops {t e ti tn tb tbb tm tu : TypeId} {f0 f1 f2 f3 f4 : Field} {fuel : Nat} {v : Value} {x : DataW H × List MemPlace} (ht : P.underlying t = some (.slice e)) (he : P.underlying e = some (.struct #[f0, f1, f2, f3, f4])) (hone : oneCellFields P #[f0, f1, f2, f3, f4] = true) (hC : P.cellsOf e = 5)
    (h0 : f0.type = ti) (h1 : f1.type = tn) (h2 : f2.type = tb) (h3 : f3.type = tbb) (h4 : f4.type = tm) (hi : P.underlying ti = some (.int .i64)) (hn : P.underlying tn = some (.int .i64))
    (hb : P.underlying tb = some (.slice tu)) (hbb : P.underlying tbb = some (.slice tb)) (hm : P.underlying tm = some (.slice tn)) (hu : P.underlying tu = some (.int .u8)) (cu : P.cellsOf tu = 1) (cb : P.cellsOf tb = 1) (cn : P.cellsOf tn = 1)
    (h : DataW.trod enc P w base spare held fuel t [v] = some x) : ∃ (A : Option Addr) (cap : Nat) (l : List OpD), v = .slice A l.length cap ∧ OpRow w (fun k => k < w.heap.size) A l ∧ l.length ≤ 9223372036854775807 ∧ ∀ x ∈ l, OpOk x := by
  rcases open_slice_five ht he hone hC h with ⟨hv, _⟩ | ⟨a, len, cap, m, hv, hml, hm', hat⟩
  · cases hv
    exact ⟨none, 0, [], rfl, fun k s hs => by simp at hs, by simp, by simp⟩
  · cases hv
    have hat' : ∀ i, i < m → ∃ s : OpD, (w.cell? (a.add (i * 5)) = some (.int .i64 s.what) ∧ w.cell? (a.add (i * 5 + 1)) = some (.int .i64 s.n) ∧
        (∃ A c, w.cell? (a.add (i * 5 + 2)) = some (.slice A s.s.length c) ∧ ByteRow w (fun k => k < w.heap.size) A s.s) ∧
        (∃ A c, w.cell? (a.add (i * 5 + 3)) = some (.slice A s.l.length c) ∧ TextRow w (fun k => k < w.heap.size) A s.l) ∧
        (∃ A c, w.cell? (a.add (i * 5 + 4)) = some (.slice A s.m.length c) ∧ NumRow w (fun k => k < w.heap.size) A s.m)) ∧ OpOk s := by
      intro i hi'
      obtain ⟨ys, n, hf⟩ := hat i hi'
      obtain ⟨v0, y0, c0, _, t0⟩ := hf 0 f0 rfl
      obtain ⟨v1, y1, c1, _, t1⟩ := hf 1 f1 rfl
      obtain ⟨v2, y2, c2, _, t2⟩ := hf 2 f2 rfl
      obtain ⟨v3, y3, c3, _, t3⟩ := hf 3 f3 rfl
      obtain ⟨v4, y4, c4, _, t4⟩ := hf 4 f4 rfl
      rw [h0] at t0
      rw [h1] at t1
      rw [h2] at t2
      rw [h3] at t3
      rw [h4] at t4
      obtain ⟨n0, e0, _, _⟩ := DataW.trod_int hi t0
      obtain ⟨n1, e1, _, w1⟩ := DataW.trod_int hn t1
      cases e0
      cases e1
      obtain ⟨A2, cap2, xs, rfl, r2, l2, w2⟩ := open_kind_row hb hu cu t2
      obtain ⟨A3, cap3, l, rfl, r3, l3, w3⟩ := open_text_row hbb hb hu cb cu t3
      obtain ⟨A4, cap4, ms, rfl, r4, l4, w4⟩ := open_kind_row hm hn cn t4
      refine ⟨⟨n0, n1, xs, l, ms⟩, ⟨c0, c1, ⟨A2, cap2, c2, r2⟩, ⟨A3, cap3, c3, r3⟩, ⟨A4, cap4, c4, r4⟩⟩, ⟨l2, l3, l4⟩, bytes_wf w2, fun s hs => (w3 s hs).1, fun y hy => ?_, ?_⟩
      · have := w4 y hy
        simpa [Lit.wf, IntKind.min, IntKind.max, IntKind.signed, IntKind.bits] using this
      · simpa [Lit.wf, IntKind.min, IntKind.max, IntKind.signed, IntKind.bits] using w1
    obtain ⟨s, hs⟩ : ∃ s : Nat → OpD, ∀ i, i < m → (w.cell? (a.add (i * 5)) = some (.int .i64 (s i).what) ∧ w.cell? (a.add (i * 5 + 1)) = some (.int .i64 (s i).n) ∧
        (∃ A c, w.cell? (a.add (i * 5 + 2)) = some (.slice A (s i).s.length c) ∧ ByteRow w (fun k => k < w.heap.size) A (s i).s) ∧
        (∃ A c, w.cell? (a.add (i * 5 + 3)) = some (.slice A (s i).l.length c) ∧ TextRow w (fun k => k < w.heap.size) A (s i).l) ∧
        (∃ A c, w.cell? (a.add (i * 5 + 4)) = some (.slice A (s i).m.length c) ∧ NumRow w (fun k => k < w.heap.size) A (s i).m)) ∧ OpOk (s i) :=
      ⟨fun i => if h : i < m then (hat' i h).choose else ⟨0, 0, [], [], []⟩, fun i h => by simp only [dif_pos h]; exact (hat' i h).choose_spec⟩
    have hlen : ((List.range len).map s).length = len := by simp
    refine ⟨some a, cap, (List.range len).map s, by rw [hlen], ?_, by rw [hlen]; unfold maxLen at hm'; omega, ?_⟩
    · intro k x hx
      rw [List.getElem?_map] at hx
      obtain ⟨i, hi', rfl⟩ := Option.map_eq_some_iff.1 hx
      obtain ⟨hk, rfl⟩ := List.getElem?_eq_some_iff.1 hi'
      simp only [List.length_range] at hk
      simp only [List.getElem_range]
      obtain ⟨⟨c0, c1, ⟨A2, q2, c2, r2⟩, ⟨A3, q3, c3, r3⟩, ⟨A4, q4, c4, r4⟩⟩, _⟩ := hs k (by omega)
      obtain ⟨b, off, spot⟩ := a
      have hspot : spot = none := World.cell?_spot (hs 0 (by omega)).1.1
      subst hspot
      rw [add_at] at c0 c1 c2 c3 c4
      rw [← Nat.add_assoc] at c1 c2 c3 c4
      exact ⟨b, off, rfl, World.block_lt_of_cell? w _ c0, c0, c1, ⟨A2, q2, c2, r2⟩, ⟨A3, q3, c3, r3⟩, ⟨A4, q4, c4, r4⟩⟩
    · intro x hx
      obtain ⟨i, hi', rfl⟩ := List.mem_map.1 hx
      exact (hs i (by have := List.mem_range.1 hi'; omega)).2
end
end Go.Proofs.YtkbcobbnjiekfaaDoor
