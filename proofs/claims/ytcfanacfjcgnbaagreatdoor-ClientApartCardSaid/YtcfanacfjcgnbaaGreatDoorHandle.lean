/- What the laid variable errors.errorType gives a walk; a world that meets it. -/
import Derived.Test.YtcfanacfjcgnbaaGreatDoorRows
import Derived.Test.YtcfanacfjcgnbaaGreatDoorCode
import Derived.ChangeVars
import Derived.JoinedOf
import Derived.RowKit
import Derived.RowKitTokens
import Derived.LaidLaws
import Derived.LaidHandle
import Derived.Stop.Joined
namespace Go.Proofs.YtcfanacfjcgnbaaGreatDoor
open Go Go.ChangeShapes Go.WideShapes Go.RowKit
theorem own_door : ownKnob Tryz.prog.godebug = none := by kernel_rfl
theorem laidOut_door : laidOutB Tryz.prog = true := by kernel_rfl
theorem door_et : Tryz.prog.globalNamed "errors.errorType" = some 0 := by kernel_rfl
theorem door_rt : (Tryz.prog.cutTypes.find? (·.1 == "internal/reflectlite.rtype")).map (·.2) = some 149 := by kernel_rfl
theorem door_oneRow : ((List.range Tryz.prog.types.size).filter fun t => Tryz.prog.rowNamed t [101, 114, 114, 111, 114]) = [52] := by kernel_rfl
theorem laid_of_door {W : World} (h : laidMetH Tryz.prog [("errors.errorType", Rows.laid_errors_errorType)] W) : Laid W := by
  have h' : laidMet Tryz.prog [] W ∧ handlesMet Tryz.prog [("errors.errorType", Rows.laid_errors_errorType)] W := h
  obtain ⟨name, u, ty, e1, e2, e3, e4, e5⟩ := h'.2 _ (List.mem_singleton.2 rfl)
  have en : name = [101, 114, 114, 111, 114] := (Option.some.inj e1).symm
  subst en
  obtain rfl := Option.some.inj (door_rt.symm.trans e2)
  have hm : ty ∈ (List.range Tryz.prog.types.size).filter fun t => Tryz.prog.rowNamed t [101, 114, 114, 111, 114] := List.mem_filter.2 ⟨List.mem_range.2 e3, e4⟩
  rw [door_oneRow] at hm
  obtain rfl := List.mem_singleton.1 hm
  have hh : typeHandle Tryz.prog 52 = .pointer (some ⟨1, 52, none⟩) := by kernel_rfl
  rw [hh] at e5
  have := World.var?_cell door_et e5 0
  simpa [Laid] using this
noncomputable def laidWorld (os : Os) : World :=
  let w0 := World.holding Tryz.prog os ⟨#[], #[], []⟩
  { w0 with heap := w0.heap.modify 0 fun
      | .cells _ t frozen => .cells #[.iface 149 (.agg #[.pointer (some ⟨1, 52, none⟩)])] t frozen
      | o => o }
theorem laidWorld_met (os : Os) (args : Array Value) : laidMetH Tryz.prog [("errors.errorType", Rows.laid_errors_errorType)] ((laidWorld os).forCall (fun _ _ => 0) ⟨#[], args, []⟩).memory :=
  laidMetH_of_parts (laidMet_nil _ _) (by kernel_rfl)
end Go.Proofs.YtcfanacfjcgnbaaGreatDoor
