/- Arguments opened: votes, what is said. -/
import Derived.Test.YtcfanacfjcgnbaaGreatDoorOpenG
import Derived.Test.YtcfanacfjcgnbaaGreatDoorPl20
namespace Go.Proofs.YtcfanacfjcgnbaaGreatDoor
open Go Go.RowKit Go.ChangeShapes Go.WideShapes Go.Deep Go.Joins
instance : Inhabited VoteD := ⟨⟨0, 0, false, 0⟩⟩
def VoteRow (w : World) (F : Nat → Prop) (A : Option Addr) (l : List VoteD) : Prop :=
  ∀ k x, l[k]? = some x → ∃ b o, A = some ⟨b, o, none⟩ ∧ F b ∧ w.cell? ⟨b, o + k * 4, none⟩ = some (.int .i64 x.gr) ∧ w.cell? ⟨b, o + k * 4 + 1, none⟩ = some (.int .i64 x.mask) ∧ w.cell? ⟨b, o + k * 4 + 2, none⟩ = some (.bool x.yes) ∧ w.cell? ⟨b, o + k * 4 + 3, none⟩ = some (.int .i64 x.kind)
theorem VoteRow.fr {S F : Nat → Prop} {w w' : World} {A : Option Addr} {l : List VoteD} (h : VoteRow w F A l) (hf : Fr S w w') (hS : ∀ k, F k → ¬ S k) : VoteRow w' F A l := fun k x hx => by
  obtain ⟨b, o, h1, h2, h3, h4, h5, h6⟩ := h k x hx
  exact ⟨b, o, h1, h2, hf.cell_some h3 (hS b h2), hf.cell_some h4 (hS b h2), hf.cell_some h5 (hS b h2), hf.cell_some h6 (hS b h2)⟩
section
variable {H : Type} {enc : TypeId × Value → H} {w : World} {base : Nat} {spare : Nat → Bool} {held : Bool}
set_option maxRecDepth 100000 in
theorem open_votes {fuel : Nat} {v : Value} {x : DataW H × List MemPlace} (h : DataW.trod enc Tryz.prog w base spare held fuel 26 [v] = some x) :
    ∃ (A : Option Addr) (cap : Nat) (l : List VoteD), v = .slice A l.length cap ∧ VoteRow w (fun k => k < w.heap.size) A l ∧ l.length ≤ 9223372036854775807 := by
  rcases open_slice_rows Tryz.underlying26 Tryz.underlying45 (by kernel_rfl) (by kernel_rfl) h with ⟨hv, _⟩ | ⟨a, len, cap, m, hv, hml, hm', hat⟩
  · cases hv
    exact ⟨none, 0, [], rfl, fun k s hs => by simp at hs, by simp⟩
  · cases hv
    obtain ⟨l, hl, hr⟩ := open_rows (w := w) (a := a) (len := len) (k := 4) (α := VoteD) (R := fun c s => c 0 = some (.int .i64 s.gr) ∧ c 1 = some (.int .i64 s.mask) ∧ c 2 = some (.bool s.yes) ∧ c 3 = some (.int .i64 s.kind)) (fun i hi => by
      obtain ⟨ys, n, hf⟩ := hat i (by omega)
      obtain ⟨v0, y0, c0, _, t0⟩ := hf 0 _ rfl
      obtain ⟨v1, y1, c1, _, t1⟩ := hf 1 _ rfl
      obtain ⟨v2, y2, c2, _, t2⟩ := hf 2 _ rfl
      obtain ⟨v3, y3, c3, _, t3⟩ := hf 3 _ rfl
      obtain ⟨z0, e0, _, _⟩ := DataW.trod_int Tryz.underlying3 t0
      obtain ⟨z1, e1, _, _⟩ := DataW.trod_int Tryz.underlying3 t1
      obtain ⟨z2, e2, _⟩ := DataW.trod_bool Tryz.underlying4 t2
      obtain ⟨z3, e3, _, _⟩ := DataW.trod_int Tryz.underlying3 t3
      cases e0
      cases e1
      cases e2
      cases e3
      exact ⟨⟨z0, z1, z2, z3⟩, c0, c1, c2, c3⟩)
    subst hl
    refine ⟨some a, cap, l, rfl, fun k s hs => ?_, by unfold maxLen at hm'; omega⟩
    obtain ⟨c0, c1, c2, c3⟩ := hr k s hs
    obtain ⟨b, off, spot⟩ := a
    dsimp only at c0 c1 c2 c3
    have hpos : 0 < l.length := by have := (List.getElem?_eq_some_iff.1 hs).1; omega
    have q0 := (hr 0 _ (List.getElem?_eq_getElem hpos)).1
    have hspot : spot = none := World.cell?_spot (a := ⟨b, off, spot⟩) q0
    subst hspot
    rw [add_in] at c0 c1 c2 c3; rw [Nat.add_zero] at c0; rw [← Nat.add_assoc] at c1 c2 c3
    exact ⟨b, off, rfl, World.block_lt_of_cell? w _ c0, c0, c1, c2, c3⟩
set_option maxRecDepth 100000 in
theorem open_say {fuel : Nat} {cs : List Value} {x : DataW H × List MemPlace} (h : DataW.trod enc Tryz.prog w base spare held fuel 42 cs = some x) :
    ∃ s : SayD, cs = [.int .i64 s.kind, .int .i64 s.txn, .bool s.yes, .string s.from_, .string s.to_, .int .i64 s.epoch, .int .i64 s.shard, .int .i64 s.target, .int .i64 s.root] ∧ s.from_.size ≤ 9223372036854775807 ∧ s.to_.size ≤ 9223372036854775807 ∧
      ∀ z, z = s.kind ∨ z = s.txn ∨ z = s.epoch ∨ z = s.shard ∨ z = s.target ∨ z = s.root → -9223372036854775808 ≤ z ∧ z ≤ 9223372036854775807 := by
  obtain ⟨xs, n, _, _, hlen, hxl, hf⟩ := DataW.trod_struct Tryz.underlying42 h
  have hc : (Tryz.prog).cellsOf 42 = 9 := by kernel_rfl
  rw [hc] at hlen
  match cs, hlen, xs, hxl with
  | [a0, a1, a2, a3, a4, a5, a6, a7, a8], _, [x0, x1, x2, x3, x4, x5, x6, x7, x8], _ =>
    have c1 : (Tryz.prog).cellsOf 3 = 1 := by kernel_rfl
    have c2 : (Tryz.prog).cellsOf 2 = 1 := by kernel_rfl
    have c3 : (Tryz.prog).cellsOf 4 = 1 := by kernel_rfl
    have c4 : (Tryz.prog).cellsOf 9 = 1 := by kernel_rfl
    have t0 : DataW.trod enc Tryz.prog w base spare held n 3 (([a0, a1, a2, a3, a4, a5, a6, a7, a8].drop 0).take ((Tryz.prog).cellsOf 3)) = some x0 := hf 0 _ rfl
    rw [c1] at t0
    have t1 : DataW.trod enc Tryz.prog w base spare held n 3 (([a0, a1, a2, a3, a4, a5, a6, a7, a8].drop 1).take ((Tryz.prog).cellsOf 3)) = some x1 := hf 1 _ rfl
    rw [c1] at t1
    have t2 : DataW.trod enc Tryz.prog w base spare held n 4 (([a0, a1, a2, a3, a4, a5, a6, a7, a8].drop 2).take ((Tryz.prog).cellsOf 4)) = some x2 := hf 2 _ rfl
    rw [c3] at t2
    have t3 : DataW.trod enc Tryz.prog w base spare held n 9 (([a0, a1, a2, a3, a4, a5, a6, a7, a8].drop 3).take ((Tryz.prog).cellsOf 9)) = some x3 := hf 3 _ rfl
    rw [c4] at t3
    have t4 : DataW.trod enc Tryz.prog w base spare held n 9 (([a0, a1, a2, a3, a4, a5, a6, a7, a8].drop 4).take ((Tryz.prog).cellsOf 9)) = some x4 := hf 4 _ rfl
    rw [c4] at t4
    have t5 : DataW.trod enc Tryz.prog w base spare held n 2 (([a0, a1, a2, a3, a4, a5, a6, a7, a8].drop 5).take ((Tryz.prog).cellsOf 2)) = some x5 := hf 5 _ rfl
    rw [c2] at t5
    have t6 : DataW.trod enc Tryz.prog w base spare held n 3 (([a0, a1, a2, a3, a4, a5, a6, a7, a8].drop 6).take ((Tryz.prog).cellsOf 3)) = some x6 := hf 6 _ rfl
    rw [c1] at t6
    have t7 : DataW.trod enc Tryz.prog w base spare held n 3 (([a0, a1, a2, a3, a4, a5, a6, a7, a8].drop 7).take ((Tryz.prog).cellsOf 3)) = some x7 := hf 7 _ rfl
    rw [c1] at t7
    have t8 : DataW.trod enc Tryz.prog w base spare held n 3 (([a0, a1, a2, a3, a4, a5, a6, a7, a8].drop 8).take ((Tryz.prog).cellsOf 3)) = some x8 := hf 8 _ rfl
    rw [c1] at t8
    obtain ⟨n0, e0, _, w0⟩ := DataW.trod_int Tryz.underlying3 t0
    obtain ⟨n1, e1, _, w1⟩ := DataW.trod_int Tryz.underlying3 t1
    obtain ⟨n2, e2, _⟩ := DataW.trod_bool Tryz.underlying4 t2
    obtain ⟨n3, e3, _, w3⟩ := DataW.trod_string Tryz.underlying9 t3
    obtain ⟨n4, e4, _, w4⟩ := DataW.trod_string Tryz.underlying9 t4
    obtain ⟨n5, e5, _, w5⟩ := DataW.trod_int Tryz.underlying2 t5
    obtain ⟨n6, e6, _, w6⟩ := DataW.trod_int Tryz.underlying3 t6
    obtain ⟨n7, e7, _, w7⟩ := DataW.trod_int Tryz.underlying3 t7
    obtain ⟨n8, e8, _, w8⟩ := DataW.trod_int Tryz.underlying3 t8
    cases e0
    cases e1
    cases e2
    cases e3
    cases e4
    cases e5
    cases e6
    cases e7
    cases e8
    have q : ∀ z : Int, (Lit.int .i64 z).wf = true → -9223372036854775808 ≤ z ∧ z ≤ 9223372036854775807 := fun z hz => by
      simpa [Lit.wf, IntKind.min, IntKind.max, IntKind.signed, IntKind.bits] using hz
    refine ⟨⟨n0, n1, n2, n3, n4, n5, n6, n7, n8⟩, rfl, by unfold maxLen at w3; dsimp only; omega, by unfold maxLen at w4; dsimp only; omega, ?_⟩
    rintro z (rfl | rfl | rfl | rfl | rfl | rfl)
    · exact q _ w0
    · exact q _ w1
    · exact q _ w5
    · exact q _ w6
    · exact q _ w7
    · exact q _ w8
end
end Go.Proofs.YtcfanacfjcgnbaaGreatDoor
