/- Appending a row of integers. -/
import Derived.Test.YtjnmfaaegbkmhaaMake
import Derived.Test.YtjnmfaaegbkmhaaOwn
import Derived.Deep.AppendLies
import Derived.Deep.RegionLaw
namespace Go.Proofs.Ytjnmfaaegbkmhaa
open Go Go.RowKit
theorem IntRow.of_own' {w : World} {base : Nat} {A : Option Addr} {n cap : Nat} {xs : List Int} (h : w.ownsRow base 3 1 (.slice A n cap) n (ints xs)) : IntRow w w.heap.size A xs := by
  obtain ⟨A', cap', hv, _, hat⟩ := own_form h
  cases hv
  intro k x hx
  obtain ⟨b, hb, _, hc⟩ := hat k (.int .i64 x) (by simp [ints, hx])
  exact ⟨b, 0, hb, World.block_lt_of_cell? w _ hc, by rw [Nat.zero_add]; exact hc⟩
theorem ints_cells {w : World} {b o : Nat} {xs : List Int} (h : IntAt w b o xs) : ∀ j u, (ints xs)[j]? = some u → w.cell? ((⟨b, o, none⟩ : Addr).add j) = some u := by
  intro j u hu
  rw [ints, List.getElem?_map] at hu
  obtain ⟨x, hx, rfl⟩ := Option.map_eq_some_iff.1 hu
  rw [add_at]
  exact h j x hx
theorem ints_one (xs : List Int) : ∀ u ∈ ints xs, u.oneCell' = true := by
  intro u hu
  obtain ⟨x, _, rfl⟩ := List.mem_map.1 hu
  rfl
theorem IntAt.new (w : World) (xs : List Int) : IntAt (w.alloc (.cells (ints xs).toArray 3)) w.heap.size 0 xs := by
  intro k x hx
  rw [Nat.zero_add, (Blk.new w 3 (ints xs).toArray).cell k]
  simp [ints, hx]
/-- 'append(v, xs...)' in a plain list, v the call's own. -/
theorem wpList_append_ints {w : World} {ops : Array Oper} {rest : List Oper} {o : Oper} {a : Act} {Q : Exit → Act → World → Prop} (hgd : o.guard = none) (s x : Operand)
    (ho : o.op = .call { callee := .builtin .append, args := #[s, x], argTypes := #[23, 23] })
    (base : Nat) (v : Value) (n : Nat) (ys : List Int) (hs : a.eval s = v) (hown : w.ownsRow base 3 1 v n (ints ys))
    (b f m c : Nat) (xs : List Int) (hx : a.eval x = .slice (some ⟨b, f, none⟩) m c) (hl : xs.length = m) (hxs : IntAt w b f xs)
    (hm : 0 < m) (h63 : n + m ≤ 1099511627776) (hbase : base ≤ w.heap.size)
    (h : ∀ g cap w', w'.ownsRow base 3 1 (.slice (some ⟨g, 0, none⟩) (n + m) cap) (n + m) (ints (ys ++ xs)) → w.grownBy w' v.ownBlock → (v.ownBlock = some g ∨ g = w.heap.size) → wpList Try.prog ops Q rest (a.put o.dst (.slice (some ⟨g, 0, none⟩) (n + m) cap)) w') : wpList Try.prog ops Q (o :: rest) a w := by
  have hinf : (Try.prog.info? 3).map (fun i => (i.zero, i.size, i.bytes)) = some (some (.int .i64 0), 1, 8) := by kernel_rfl
  obtain ⟨i0, hi, hz0, hz1, hz2⟩ := info_parts hinf
  refine wpList_append_lies (w := w) hgd s x 23 ho base 3 i0 (.int .i64 0) 1 8 Try.underlying23 hi hz0 hz1 hz2 rfl (by decide) v n (ints ys) hs hown ⟨b, f, none⟩ m c (ints xs) hx (by simp [ints, hl]) (ints_cells hxs) (ints_one xs) hm (by simp only [maxLen]; omega) (by omega) hbase w.heap.size rfl ?_
  intro g cap w' h1 h2 h3 _
  exact h g cap w' (by rw [ints, List.map_append]; exact h1) h2 h3
theorem step_append_ints {w : World} {ops : Array Oper} {o : Oper} {a : Act} {K : Act → World → Prop} {Q : Exit → Act → World → Prop} {E : Prop} (hgd : o.guard = none) (s x : Operand)
    (ho : o.op = .call { callee := .builtin .append, args := #[s, x], argTypes := #[23, 23] })
    (base : Nat) (v : Value) (n : Nat) (ys : List Int) (hs : a.eval s = v) (hown : w.ownsRow base 3 1 v n (ints ys))
    (b f m c : Nat) (xs : List Int) (hx : a.eval x = .slice (some ⟨b, f, none⟩) m c) (hl : xs.length = m) (hxs : IntAt w b f xs)
    (hm : 0 < m) (h63 : n + m ≤ 1099511627776) (hbase : base ≤ w.heap.size)
    (h : ∀ g cap w', w'.ownsRow base 3 1 (.slice (some ⟨g, 0, none⟩) (n + m) cap) (n + m) (ints (ys ++ xs)) → w.grownBy w' v.ownBlock → (v.ownBlock = some g ∨ g = w.heap.size) → K (a.put o.dst (.slice (some ⟨g, 0, none⟩) (n + m) cap)) w') :
    if Region.wanted o (yielded ops a.tmps) = true then Oper.wp Try.prog o a w K Q else E := by
  have hinf : (Try.prog.info? 3).map (fun i => (i.zero, i.size, i.bytes)) = some (some (.int .i64 0), 1, 8) := by kernel_rfl
  obtain ⟨i0, hi, hz0, hz1, hz2⟩ := info_parts hinf
  refine step_append_lies (w := w) hgd s x 23 ho base 3 i0 (.int .i64 0) 1 8 Try.underlying23 hi hz0 hz1 hz2 rfl (by decide) v n (ints ys) hs hown ⟨b, f, none⟩ m c (ints xs) hx (by simp [ints, hl]) (ints_cells hxs) (ints_one xs) hm (by simp only [maxLen]; omega) (by omega) hbase w.heap.size rfl ?_
  intro g cap w' h1 h2 h3 _
  exact h g cap w' (by rw [ints, List.map_append]; exact h1) h2 h3
/-- A row made with its elements, out of 'buildSlice'. -/
theorem own_built (w : World) {base : Nat} (hb : base ≤ w.heap.size) (xs : List Int) (hx : xs.length ≤ 1000) (n : Nat) (hn : n = xs.length) :
    (w.alloc (.cells (ints xs).toArray 3)).ownsRow base 3 1 (.slice (some ⟨w.heap.size, 0, none⟩) n n) n (ints xs) := by
  subst hn
  refine ⟨by simp [ints], .inr ⟨w.heap.size, xs.length, (ints xs).toArray, rfl, hb, heap_alloc_new w _, Nat.le_refl _, by simp only [maxLen]; omega, by simp [ints], ?_⟩⟩
  simp [ints, List.take_of_length_le]
end Go.Proofs.Ytjnmfaaegbkmhaa
