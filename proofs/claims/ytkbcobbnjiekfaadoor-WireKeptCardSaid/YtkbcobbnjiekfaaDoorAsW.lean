/- errors.As at a *fault.wrapped, as fault.Trail calls it: closed facts. -/
import Derived.Test.YtkbcobbnjiekfaaDoorAs
namespace Go.Proofs.YtkbcobbnjiekfaaDoor
open Go Go.RowKit
section
variable (w : World) (a : Addr)
theorem as_ValueOf_W : (callFunc 65 #[.iface 98 (.pointer (some a))]).run Tryd.prog w = .ok (.value (.agg #[(.pointer (some ⟨4, 98, none⟩)), .pointer (some ⟨w.heap.size, 0, none⟩), .int .u64 150])) (w.alloc (.cells #[.pointer (some a)] 98)) := by kernel_rfl
theorem as_Type_W (b : Addr) : (callFunc 66 #[.agg #[(.pointer (some ⟨4, 98, none⟩)), .pointer (some b), .int .u64 150]]).run Tryd.prog w = .ok (.value (.iface 122 (.agg #[(.pointer (some ⟨4, 98, none⟩))]))) w := by kernel_rfl
theorem as_Kind_W : (callFunc 106 #[(.pointer (some ⟨4, 98, none⟩))]).run Tryd.prog w = .ok (.value (.int .u8 22)) w := by kernel_rfl
theorem as_TElem_W : (callFunc 118 #[.agg #[(.pointer (some ⟨4, 98, none⟩))]]).run Tryd.prog w = .ok (.value (.iface 122 (.agg #[(.pointer (some ⟨4, 97, none⟩))]))) w := by kernel_rfl
theorem as_Kind_w : (callFunc 106 #[(.pointer (some ⟨4, 97, none⟩))]).run Tryd.prog w = .ok (.value (.int .u8 25)) w := by kernel_rfl
theorem as_Impl_w : (callFunc 119 #[.agg #[(.pointer (some ⟨4, 97, none⟩))], .iface 122 (.agg #[(.pointer (some ⟨4, 26, none⟩))])]).run Tryd.prog w = .ok (.value (.bool true)) w := by kernel_rfl
theorem as_Assign_ew : (callFunc 116 #[.agg #[(.pointer (some ⟨4, 36, none⟩))], .iface 122 (.agg #[(.pointer (some ⟨4, 97, none⟩))])]).run Tryd.prog w = .ok (.value (.bool false)) w := by kernel_rfl
theorem as_Assign_ww : (callFunc 116 #[.agg #[(.pointer (some ⟨4, 97, none⟩))], .iface 122 (.agg #[(.pointer (some ⟨4, 97, none⟩))])]).run Tryd.prog w = .ok (.value (.bool true)) w := by kernel_rfl
theorem as_ValueOf_w (s n e : Value) : (callFunc 65 #[.iface 97 (.agg #[s, n, e])]).run Tryd.prog w = .ok (.value (.agg #[(.pointer (some ⟨4, 97, none⟩)), .pointer (some ⟨w.heap.size, 0, none⟩), .int .u64 153])) (w.alloc (.cells #[s, n, e] 97)) := by kernel_rfl
theorem as_eisAs (v : Value) : (Instr.typeAssert (.iface 36 v) 26 127 true).run Tryd.prog w = .ok (.tuple #[.nilIface, .bool false]) w :=
  run_typeAssert_lacksB Tryd.underlying127 (by kernel_rfl) (by kernel_rfl) _ _ _
theorem as_eisUnwrap (v : Value) : (Instr.typeAssert (.iface 36 v) 26 130 true).run Tryd.prog w = .ok (.tuple #[.nilIface, .bool false]) w :=
  run_typeAssert_lacksB Tryd.underlying130 (by kernel_rfl) (by kernel_rfl) _ _ _
theorem as_eisUnwraps (v : Value) : (Instr.typeAssert (.iface 36 v) 26 131 true).run Tryd.prog w = .ok (.tuple #[.nilIface, .bool false]) w :=
  run_typeAssert_lacksB Tryd.underlying131 (by kernel_rfl) (by kernel_rfl) _ _ _
end
section
variable {w : World} {a b : Addr}
theorem parts_W (w : World) (b : Addr) : (Extern.ReflectliteValue.parts (.agg #[(.pointer (some ⟨4, 98, none⟩)), .pointer (some b), .int .u64 150])).run Tryd.prog w = .ok (some (98, b, 150)) w := by kernel_rfl
theorem parts_w (w : World) (b : Addr) : (Extern.ReflectliteValue.parts (.agg #[(.pointer (some ⟨4, 97, none⟩)), .pointer (some b), .int .u64 153])).run Tryd.prog w = .ok (some (97, b, 153)) w := by kernel_rfl
theorem parts_wd (w : World) (b : Addr) : (Extern.ReflectliteValue.parts (.agg #[(.pointer (some ⟨4, 97, none⟩)), .pointer (some b), .int .u64 409])).run Tryd.prog w = .ok (some (97, b, 409)) w := by kernel_rfl
theorem as_IsNil_W (hc : w.cell? b = some (.pointer (some a))) : (callFunc 67 #[.agg #[(.pointer (some ⟨4, 98, none⟩)), .pointer (some b), .int .u64 150]]).run Tryd.prog w = .ok (.value (.bool false)) w := by
  rw [run_callFunc_extern Tryd.func67 (by kernel_rfl) (by kernel_rfl) (by kernel_rfl) find_IsNil]
  change (Sem.run Tryd.prog (do
    match ← Extern.ReflectliteValue.parts (.agg #[(.pointer (some ⟨4, 98, none⟩)), .pointer (some b), .int .u64 150]) with
    | none => Extern.ReflectliteValue.valueError "reflectlite.Value.IsNil" 0
    | some (t, a, fl) => Extern.ReflectliteValue.isNil t a fl (fl % 32)) w).andThen _ = _
  have hp := parts_W w b
  simp [hp, Extern.ReflectliteValue.isNil, loadVar, isAgg, run_underlying Tryd.underlying98, load, Sem.run, hc]
theorem elem_W (w : World) : (Extern.Rtype.elem? 98).run Tryd.prog w = .ok (some 97) w := by kernel_rfl
theorem mk_w (w : World) (a : Addr) : (Extern.ReflectliteValue.mk 97 a 256).run Tryd.prog w = .ok (.agg #[(.pointer (some ⟨4, 97, none⟩)), .pointer (some a), .int .u64 409]) w := by kernel_rfl
theorem as_VElem_W (hc : w.cell? b = some (.pointer (some a))) : (callFunc 78 #[.agg #[(.pointer (some ⟨4, 98, none⟩)), .pointer (some b), .int .u64 150]]).run Tryd.prog w = .ok (.value (.agg #[(.pointer (some ⟨4, 97, none⟩)), .pointer (some a), .int .u64 409])) w := by
  rw [run_callFunc_extern Tryd.func78 (by kernel_rfl) (by kernel_rfl) (by kernel_rfl) find_VElem]
  change (Sem.run Tryd.prog (do
    match ← Extern.ReflectliteValue.parts (.agg #[(.pointer (some ⟨4, 98, none⟩)), .pointer (some b), .int .u64 150]) with
    | none => Extern.ReflectliteValue.valueError "reflectlite.Value.Elem" 0
    | some (t, a, fl) => Extern.ReflectliteValue.elem t a fl (fl % 32)) w).andThen _ = _
  have hp := parts_W w b
  have he := elem_W w
  have hm := mk_w w a
  simp [hp, he, Extern.ReflectliteValue.elem, Extern.ReflectliteValue.flagAddr, hm, loadVar, isAgg, run_underlying Tryd.underlying98, load, Sem.run, hc]
theorem direct_ww (w : World) : (Extern.Rtype.directlyAssignable 97 97).run Tryd.prog w = .ok true w := by kernel_rfl
theorem agg_w (w : World) : (isAgg 97).run Tryd.prog w = .ok true w := by kernel_rfl
end
end Go.Proofs.YtkbcobbnjiekfaaDoor
