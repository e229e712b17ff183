/- Arguments opened: rows of structs, a transaction, votes, what is said. -/
import Derived.Test.YtcfanacfjcgnbaaGreatDoorTxnR
import Derived.ProofKit
import Derived.OpenShut
import Derived.ChangeOld
import Derived.Deep.Slices
import Derived.Deep.Fields
import Derived.Lib.SmallJoins
namespace Go.Proofs.YtcfanacfjcgnbaaGreatDoor
open Go Go.RowKit Go.ChangeShapes Go.WideShapes Go.Deep Go.Joins
section
variable {H : Type} {enc : TypeId × Value → H} {P : Program} {w : World} {base : Nat} {spare : Nat → Bool} {held : Bool}
set_option maxRecDepth 100000 in
theorem open_slice_rows {t e : TypeId} {fs : Array Field} {fuel : Nat} {cs : List Value} {x : DataW H × List MemPlace} (ht : P.underlying t = some (.slice e)) (he : P.underlying e = some (.struct fs))
    (hone : oneCellFields P fs = true) (hC : P.cellsOf e = fs.size) (h : DataW.trod enc P w base spare held fuel t cs = some x) :
    (cs = [.slice none 0 0] ∧ x = (.nil, [])) ∨
    ∃ (a : Addr) (len cap m : Nat), cs = [.slice (some a) len cap] ∧ len ≤ m ∧ len ≤ maxLen ∧
      ∀ i, i < m → ∃ (ys : List (DataW H × List MemPlace)) (n : Nat),
        ∀ (j : Nat) (f : Field), fs[j]? = some f → ∃ (v : Value) (y : DataW H × List MemPlace), w.cell? (a.add (i * fs.size + j)) = some v ∧ ys[j]? = some y ∧ DataW.trod enc P w base spare held n f.type [v] = some y := by
  rcases open_slice ht h with h0 | ⟨a, len, cap, m, n, D, Pl, hcs, hb, hl, hm, hmm, hx, hi⟩
  · exact .inl h0
  · refine .inr ⟨a, len, cap, m, hcs, by rw [hmm]; split <;> omega, by omega, fun i him => ?_⟩
    obtain ⟨cs', hc, ht'⟩ := hi i him
    rw [hC] at hc
    obtain ⟨ys, n', hn', hy, hlen, hyl, hf⟩ := DataW.trod_struct he ht'
    obtain ⟨_, hcl, hat⟩ := World.cells?_some hc
    refine ⟨ys, n', fun j f hj => ?_⟩
    obtain ⟨ho, hk⟩ := hone_of hone j f hj
    have hjl : j < fs.size := (Array.getElem?_eq_some_iff.1 hj).1
    have hcell := hat j hjl
    have hv : cs'[j]? = some (cs'[j]'(by omega)) := List.getElem?_eq_getElem (by omega)
    have h1 := hf j f hj
    rw [ho, hk] at h1
    have hone' : (cs'.drop j).take 1 = [cs'[j]'(by omega)] := by
      rw [List.drop_eq_getElem_cons (by omega)]
      rfl
    rw [hone'] at h1
    have hys : ys[j]? = some (ys[j]'(by omega)) := List.getElem?_eq_getElem (by omega)
    refine ⟨_, _, ?_, hys, h1.trans hys⟩
    rw [← Go.Deep.add_add, hcell, hv]
/-- A row of things that lie k cells apart, each as R says. -/
theorem open_rows {α : Type} [Inhabited α] {R : (Nat → Option Value) → α → Prop} {a : Addr} {len k : Nat} (h : ∀ i, i < len → ∃ s : α, R (fun j => w.cell? (a.add (i * k + j))) s) :
    ∃ l : List α, l.length = len ∧ ∀ (i : Nat) s, l[i]? = some s → R (fun j => w.cell? (a.add (i * k + j))) s := by
  obtain ⟨s, hs⟩ : ∃ s : Nat → α, ∀ i, i < len → R (fun j => w.cell? (a.add (i * k + j))) (s i) :=
    ⟨fun i => if h' : i < len then (h i h').choose else default, fun i h' => by simp only [dif_pos h']; exact (h i h').choose_spec⟩
  refine ⟨(List.range len).map s, by simp, fun i x hx => ?_⟩
  rw [List.getElem?_map] at hx
  obtain ⟨q, hq, rfl⟩ := Option.map_eq_some_iff.1 hx
  obtain ⟨hk, rfl⟩ := List.getElem?_eq_some_iff.1 hq
  simp only [List.length_range] at hk
  simp only [List.getElem_range]
  exact hs i hk
theorem add_in (b o j : Nat) : (⟨b, o, none⟩ : Addr).add j = ⟨b, o + j, none⟩ := by unfold Addr.add; split <;> simp_all
end
section
variable {H : Type} {enc : TypeId × Value → H} {w : World} {base : Nat} {spare : Nat → Bool} {held : Bool}
set_option maxRecDepth 100000 in
theorem open_reads {fuel : Nat} {v : Value} {x : DataW H × List MemPlace} (h : DataW.trod enc Tryz.prog w base spare held fuel 22 [v] = some x) :
    ∃ (A : Option Addr) (cap : Nat) (l : List (ByteArray × Int)), v = .slice A l.length cap ∧ ReadRow w (fun k => k < w.heap.size) A l ∧ l.length ≤ 9223372036854775807 := by
  rcases open_slice_rows Tryz.underlying22 Tryz.underlying74 (by kernel_rfl) (by kernel_rfl) h with ⟨hv, _⟩ | ⟨a, len, cap, m, hv, hml, hm', hat⟩
  · cases hv
    exact ⟨none, 0, [], rfl, fun k s hs => by simp at hs, by simp⟩
  · cases hv
    obtain ⟨l, hl, hr⟩ := open_rows (w := w) (a := a) (len := len) (k := 2) (α := ByteArray × Int) (R := fun c s => c 0 = some (.string s.1) ∧ c 1 = some (.int .i64 s.2)) (fun i hi => by
      obtain ⟨ys, n, hf⟩ := hat i (by omega)
      obtain ⟨v0, y0, c0, _, t0⟩ := hf 0 _ rfl
      obtain ⟨v1, y1, c1, _, t1⟩ := hf 1 _ rfl
      obtain ⟨s, e0, _, _⟩ := DataW.trod_string Tryz.underlying9 t0
      obtain ⟨z, e1, _, _⟩ := DataW.trod_int Tryz.underlying2 t1
      cases e0
      cases e1
      exact ⟨(s, z), c0, c1⟩)
    subst hl
    refine ⟨some a, cap, l, rfl, fun k s hs => ?_, by unfold maxLen at hm'; omega⟩
    obtain ⟨c0, c1⟩ := hr k s hs
    obtain ⟨b, off, spot⟩ := a
    dsimp only at c0 c1
    have hpos : 0 < l.length := by have := (List.getElem?_eq_some_iff.1 hs).1; omega
    have q0 := (hr 0 _ (List.getElem?_eq_getElem hpos)).1
    have hspot : spot = none := World.cell?_spot (a := ⟨b, off, spot⟩) q0
    subst hspot
    rw [add_in] at c0 c1
    rw [Nat.add_zero] at c0
    rw [← Nat.add_assoc] at c1
    exact ⟨b, off, rfl, World.block_lt_of_cell? w _ c0, c0, c1⟩
set_option maxRecDepth 100000 in
theorem open_writes {fuel : Nat} {v : Value} {x : DataW H × List MemPlace} (h : DataW.trod enc Tryz.prog w base spare held fuel 23 [v] = some x) :
    ∃ (A : Option Addr) (cap : Nat) (l : List (ByteArray × ByteArray)), v = .slice A l.length cap ∧ WriteRow w (fun k => k < w.heap.size) A l ∧ l.length ≤ 9223372036854775807 := by
  rcases open_slice_rows Tryz.underlying23 Tryz.underlying50 (by kernel_rfl) (by kernel_rfl) h with ⟨hv, _⟩ | ⟨a, len, cap, m, hv, hml, hm', hat⟩
  · cases hv
    exact ⟨none, 0, [], rfl, fun k s hs => by simp at hs, by simp⟩
  · cases hv
    obtain ⟨l, hl, hr⟩ := open_rows (w := w) (a := a) (len := len) (k := 2) (α := ByteArray × ByteArray) (R := fun c s => c 0 = some (.string s.1) ∧ c 1 = some (.string s.2)) (fun i hi => by
      obtain ⟨ys, n, hf⟩ := hat i (by omega)
      obtain ⟨v0, y0, c0, _, t0⟩ := hf 0 _ rfl
      obtain ⟨v1, y1, c1, _, t1⟩ := hf 1 _ rfl
      obtain ⟨s, e0, _, _⟩ := DataW.trod_string Tryz.underlying9 t0
      obtain ⟨z, e1, _, _⟩ := DataW.trod_string Tryz.underlying9 t1
      cases e0
      cases e1
      exact ⟨(s, z), c0, c1⟩)
    subst hl
    refine ⟨some a, cap, l, rfl, fun k s hs => ?_, by unfold maxLen at hm'; omega⟩
    obtain ⟨c0, c1⟩ := hr k s hs
    obtain ⟨b, off, spot⟩ := a
    dsimp only at c0 c1
    have hpos : 0 < l.length := by have := (List.getElem?_eq_some_iff.1 hs).1; omega
    have q0 := (hr 0 _ (List.getElem?_eq_getElem hpos)).1
    have hspot : spot = none := World.cell?_spot (a := ⟨b, off, spot⟩) q0
    subst hspot
    rw [add_in] at c0 c1
    rw [Nat.add_zero] at c0
    rw [← Nat.add_assoc] at c1
    exact ⟨b, off, rfl, World.block_lt_of_cell? w _ c0, c0, c1⟩
set_option maxRecDepth 100000 in
theorem open_txn {fuel : Nat} {cs : List Value} {x : DataW H × List MemPlace} (h : DataW.trod enc Tryz.prog w base spare held fuel 25 cs = some x) :
    ∃ (c n : Int) (A : Option Addr) (cr : Nat) (R : List (ByteArray × Int)) (B : Option Addr) (cw : Nat) (W : List (ByteArray × ByteArray)), cs = [.int .i64 c, .int .i64 n, .slice A R.length cr, .slice B W.length cw] ∧
      ReadRow w (fun k => k < w.heap.size) A R ∧ WriteRow w (fun k => k < w.heap.size) B W ∧ R.length ≤ 9223372036854775807 ∧ W.length ≤ 9223372036854775807 ∧ (-9223372036854775808 ≤ c ∧ c ≤ 9223372036854775807) ∧ (-9223372036854775808 ≤ n ∧ n ≤ 9223372036854775807) := by
  obtain ⟨xs, n, _, _, hlen, hxl, hf⟩ := DataW.trod_struct Tryz.underlying25 h
  have hc : (Tryz.prog).cellsOf 25 = 4 := by kernel_rfl
  rw [hc] at hlen
  match cs, hlen, xs, hxl with
  | [a, b, c, d], _, [x0, x1, x2, x3], _ =>
    have c1 : (Tryz.prog).cellsOf 3 = 1 := by kernel_rfl
    have c2 : (Tryz.prog).cellsOf 2 = 1 := by kernel_rfl
    have c3 : (Tryz.prog).cellsOf 22 = 1 := by kernel_rfl
    have c4 : (Tryz.prog).cellsOf 23 = 1 := by kernel_rfl
    have t0 : DataW.trod enc Tryz.prog w base spare held n 3 (([a, b, c, d].drop 0).take ((Tryz.prog).cellsOf 3)) = some x0 := hf 0 _ rfl
    have t1 : DataW.trod enc Tryz.prog w base spare held n 2 (([a, b, c, d].drop 1).take ((Tryz.prog).cellsOf 2)) = some x1 := hf 1 _ rfl
    have t2 : DataW.trod enc Tryz.prog w base spare held n 22 (([a, b, c, d].drop 2).take ((Tryz.prog).cellsOf 22)) = some x2 := hf 2 _ rfl
    have t3 : DataW.trod enc Tryz.prog w base spare held n 23 (([a, b, c, d].drop 3).take ((Tryz.prog).cellsOf 23)) = some x3 := hf 3 _ rfl
    rw [c1] at t0
    rw [c2] at t1
    rw [c3] at t2
    rw [c4] at t3
    obtain ⟨n0, e0, _, w0⟩ := DataW.trod_int Tryz.underlying3 t0
    obtain ⟨n1, e1, _, w1⟩ := DataW.trod_int Tryz.underlying2 t1
    cases e0
    cases e1
    obtain ⟨A, cr, R, rfl, hR, lR⟩ := open_reads t2
    obtain ⟨B, cw, W, rfl, hW, lW⟩ := open_writes t3
    refine ⟨n0, n1, A, cr, R, B, cw, W, rfl, hR, hW, lR, lW, ?_, ?_⟩
    · simpa [Lit.wf, IntKind.min, IntKind.max, IntKind.signed, IntKind.bits] using w0
    · simpa [Lit.wf, IntKind.min, IntKind.max, IntKind.signed, IntKind.bits] using w1
theorem trod_cells {t : TypeId} {v : Value} {d : DataW H} {ps : List MemPlace} {P : Program} (h : DataW.Trod enc P w base spare held t v d ps) : ∃ fuel, DataW.trod enc P w base spare held fuel t v.cells.toList = some (d, ps) := h
end
end Go.Proofs.YtcfanacfjcgnbaaGreatDoor
