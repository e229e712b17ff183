/- What the form of the start gives of a table that no row lists: it holds some numbers. -/
import Derived.Test.YtkbcobbnjiekfaaDoorItoaT
import Derived.Test.YtkbcobbnjiekfaaDoorHandle
import Derived.Shelf.Vars
import Derived.SizedLaws
namespace Go.Proofs.YtkbcobbnjiekfaaDoor
open Go Go.RowKit
set_option maxRecDepth 100000 in
theorem tab_of_shape {w : World} (h : w.ShapedOpen Tryd.prog) : ∃ tb, Tab w tb := by
  have h0 : ((begin Tryd.prog (fun _ _ => 0) default).world.heap[1]?).bind Obj.row? = some (#[.int .u64 0, .int .u64 0, .int .u64 0, .int .u64 0, .int .u64 0, .int .u64 0, .int .u64 0, .int .u64 0, .int .u64 0, .int .u64 0, .int .u64 0, .int .u64 0, .int .u64 0, .int .u64 0, .int .u64 0, .int .u64 0, .int .u64 0, .int .u64 0, .int .u64 0, .int .u64 0], 142) := by kernel_rfl
  obtain ⟨cs, hh, hs, hr⟩ := h.1 _ _ _ (by decide) h0
  obtain ⟨ts, h1, _, h3⟩ := hr (by kernel_rfl)
  have hts : (Tryd.prog).cellTypes (Tryd.prog).depth 142 = some (List.replicate 20 136) := by kernel_rfl
  obtain rfl : List.replicate 20 136 = ts := Option.some.inj (hts.symm.trans h1)
  have hs20 : cs.size = 20 := hs
  have hall : ∀ k : Nat, k < 20 → ∃ z : Int, cs[k]? = some (.int .u64 z) := by
    intro k hk
    obtain ⟨v, hv⟩ : ∃ v, cs[k]? = some v := ⟨cs[k]'(by omega), Array.getElem?_eq_getElem (by omega)⟩
    obtain ⟨u, hu, hok⟩ := h3 k v hv
    rw [List.getElem?_replicate] at hu
    split at hu
    · obtain rfl := Option.some.inj hu
      unfold Cell.ok at hok
      rw [Tryd.underlying136] at hok
      cases v with
      | int k n =>
        obtain ⟨rfl, _⟩ : k = .u64 ∧ IntKind.u64.has n := hok
        exact ⟨_, hv⟩
      | _ => exact absurd hok id
    · cases hu
  refine ⟨fun k => if hk : k < 20 then (hall k hk).choose else 0, fun k hk => ?_⟩
  have hc := (hall k hk).choose_spec
  show w.cell? _ = some (Value.int .u64 (if hk : k < 20 then (hall k hk).choose else 0))
  rw [dif_pos hk]
  simp only [World.cell?, hh]
  exact hc
theorem slice_len {H : Type} {enc : TypeId × Value → H} {w : World} {base : Nat} {spare : Nat → Bool} {held : Bool} {fuel : Nat} {t e : TypeId} {A : Option Addr} {n cap : Nat} {x : DataW H × List MemPlace} (ht : (Tryd.prog).underlying t = some (.slice e))
    (h : DataW.trod enc Tryd.prog w base spare held fuel t [.slice A n cap] = some x) : n = 0 ∨ ∃ els sp, x.1 = .slice els sp ∧ els.length = n := by
  rcases DataW.trod_slice ht h with ⟨h1, _⟩ | ⟨a, len, cap', elems, rest, _, _, h1, h2, _, _, _, h3, _⟩
  · cases h1
    exact .inl rfl
  · cases h1
    subst h2
    exact .inr ⟨_, _, rfl, by simpa using h3⟩
theorem slice_cap {H : Type} {enc : TypeId × Value → H} {w : World} {base : Nat} {spare : Nat → Bool} {held : Bool} {fuel : Nat} {t e : TypeId} {A : Option Addr} {n cap : Nat} {x : DataW H × List MemPlace} (ht : (Tryd.prog).underlying t = some (.slice e))
    (h : DataW.trod enc Tryd.prog w base spare held fuel t [.slice A n cap] = some x) : n ≤ cap := by
  rcases DataW.trod_slice ht h with ⟨h1, _⟩ | ⟨a, len, cap', elems, rest, _, _, h1, _, _, h2, _⟩
  · cases h1
    exact Nat.le_refl _
  · cases h1
    exact h2
end Go.Proofs.YtkbcobbnjiekfaaDoor
