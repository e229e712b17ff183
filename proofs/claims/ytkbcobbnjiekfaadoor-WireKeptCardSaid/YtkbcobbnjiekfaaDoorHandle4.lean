/- The four laid variables of WireKept's row; a world that meets them. -/
import Derived.Test.YtkbcobbnjiekfaaDoorHandle
import Derived.Deep.DeepLaidRun
namespace Go.Proofs.YtkbcobbnjiekfaaDoor
open Go Go.ChangeShapes Go.WideShapes Go.RowKit
abbrev laid3 : List (String × DataW Unit) := [("math/bits.deBruijn32tab", Rows.laid_math_bits_deBruijn32tab), ("math/bits.deBruijn64tab", Rows.laid_math_bits_deBruijn64tab), ("internal/strconv.uint64pow10", Rows.laid_internal_strconv_uint64pow10)]
abbrev laid4 : List (String × DataW Unit) := [("math/bits.deBruijn32tab", Rows.laid_math_bits_deBruijn32tab), ("math/bits.deBruijn64tab", Rows.laid_math_bits_deBruijn64tab), ("internal/strconv.uint64pow10", Rows.laid_internal_strconv_uint64pow10), ("errors.errorType", Rows.laid_errors_errorType)]
theorem laid_of_door4 {W : World} (h : laidMetH Tryd.prog laid4 W) : Laid W := by
  have h' : laidMet Tryd.prog laid3 W ∧ handlesMet Tryd.prog [("errors.errorType", Rows.laid_errors_errorType)] W := h
  obtain ⟨name, u, ty, e1, e2, e3, e4, e5⟩ := h'.2 _ (List.mem_singleton.2 rfl)
  have en : name = [101, 114, 114, 111, 114] := (Option.some.inj e1).symm
  subst en
  obtain rfl := Option.some.inj (door_rt.symm.trans e2)
  have hm : ty ∈ (List.range Tryd.prog.types.size).filter fun t => Tryd.prog.rowNamed t [101, 114, 114, 111, 114] := List.mem_filter.2 ⟨List.mem_range.2 e3, e4⟩
  rw [door_oneRow] at hm
  obtain rfl := List.mem_singleton.1 hm
  have hh : typeHandle Tryd.prog 26 = .pointer (some ⟨4, 26, none⟩) := by kernel_rfl
  rw [hh] at e5
  have := World.var?_cell door_et e5 0
  simpa [Laid] using this
def tabCells : DataW Unit → Array Value
  | .agg l => (l.map fun | .lit (.int k n) => .int k n | _ => .nilIface).toArray
  | _ => #[]
noncomputable def tabLaid (g : Nat) (d : DataW Unit) (w : World) : World :=
  { w with heap := w.heap.modify g fun
      | .cells _ t frozen => .cells (tabCells d) t frozen
      | o => o }
noncomputable def laidWorld4 (os : Os) : World :=
  tabLaid 2 Rows.laid_math_bits_deBruijn32tab (tabLaid 3 Rows.laid_math_bits_deBruijn64tab (tabLaid 1 Rows.laid_internal_strconv_uint64pow10 (laidWorld os)))
theorem laidWorld4_met (os : Os) (args : Array Value) : laidMetH Tryd.prog laid4 ((laidWorld4 os).forCall (fun _ _ => 0) ⟨#[], args, []⟩).memory :=
  laidMetH_of_parts (laidMet_of_run3 8 (by kernel_rfl) (by kernel_rfl) (by kernel_rfl)) (by kernel_rfl)
end Go.Proofs.YtkbcobbnjiekfaaDoor
