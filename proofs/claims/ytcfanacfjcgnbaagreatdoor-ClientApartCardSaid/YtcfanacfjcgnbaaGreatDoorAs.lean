/- errors.As, as fault.Code and fault.Trail call it: the calls of reflectlite are the model's own entries: closed facts. -/
import Derived.Test.YtcfanacfjcgnbaaGreatDoorSmall
import Derived.Lib.Hide
import Derived.Laws.Externs
import Derived.Stop.Asserts
namespace Go.Proofs.YtcfanacfjcgnbaaGreatDoor
open Go Go.RowKit
section
variable (w : World) (a : Addr)
theorem meth_Kind (k : Nat) (t : TypeId) : (method (k + 1) 149 (.agg #[(.pointer (some ⟨1, t, none⟩))]) "Kind").run Tryz.prog w = .ok (101, (.pointer (some ⟨1, t, none⟩))) w := by kernel_rfl
theorem meth_Elem (k : Nat) (t : TypeId) : (method (k + 1) 149 (.agg #[(.pointer (some ⟨1, t, none⟩))]) "Elem").run Tryz.prog w = .ok (114, .agg #[(.pointer (some ⟨1, t, none⟩))]) w := by kernel_rfl
theorem meth_Impl (k : Nat) (t : TypeId) : (method (k + 1) 149 (.agg #[(.pointer (some ⟨1, t, none⟩))]) "Implements").run Tryz.prog w = .ok (115, .agg #[(.pointer (some ⟨1, t, none⟩))]) w := by kernel_rfl
theorem meth_Assign (k : Nat) (t : TypeId) : (method (k + 1) 149 (.agg #[(.pointer (some ⟨1, t, none⟩))]) "AssignableTo").run Tryz.prog w = .ok (112, .agg #[(.pointer (some ⟨1, t, none⟩))]) w := by kernel_rfl
theorem meth_Unwrap (k : Nat) (cs : Array Value) : (method (k + 1) 146 (.agg cs) "Unwrap").run Tryz.prog w = .ok (110, .agg cs) w := by kernel_rfl
theorem as_ValueOf_E : (callFunc 54 #[.iface 103 (.pointer (some a))]).run Tryz.prog w = .ok (.value (.agg #[(.pointer (some ⟨1, 103, none⟩)), .pointer (some ⟨w.heap.size, 0, none⟩), .int .u64 150])) (w.alloc (.cells #[.pointer (some a)] 103)) := by kernel_rfl
theorem as_Type_E (b : Addr) : (callFunc 55 #[.agg #[(.pointer (some ⟨1, 103, none⟩)), .pointer (some b), .int .u64 150]]).run Tryz.prog w = .ok (.value (.iface 149 (.agg #[(.pointer (some ⟨1, 103, none⟩))]))) w := by kernel_rfl
theorem as_Kind_E : (callFunc 101 #[(.pointer (some ⟨1, 103, none⟩))]).run Tryz.prog w = .ok (.value (.int .u8 22)) w := by kernel_rfl
theorem as_TElem_E : (callFunc 114 #[.agg #[(.pointer (some ⟨1, 103, none⟩))]]).run Tryz.prog w = .ok (.value (.iface 149 (.agg #[(.pointer (some ⟨1, 63, none⟩))]))) w := by kernel_rfl
theorem as_Kind_e : (callFunc 101 #[(.pointer (some ⟨1, 63, none⟩))]).run Tryz.prog w = .ok (.value (.int .u8 2)) w := by kernel_rfl
theorem as_Impl_e : (callFunc 115 #[.agg #[(.pointer (some ⟨1, 63, none⟩))], .iface 149 (.agg #[(.pointer (some ⟨1, 52, none⟩))])]).run Tryz.prog w = .ok (.value (.bool true)) w := by kernel_rfl
theorem as_TypeOf_e (c : Int) : (callFunc 65 #[.iface 63 (.int .i64 c)]).run Tryz.prog w = .ok (.value (.iface 149 (.agg #[(.pointer (some ⟨1, 63, none⟩))]))) w := by kernel_rfl
theorem as_TypeOf_w (cs : Array Value) : (callFunc 65 #[.iface 146 (.agg cs)]).run Tryz.prog w = .ok (.value (.iface 149 (.agg #[(.pointer (some ⟨1, 146, none⟩))]))) w := by kernel_rfl
theorem as_Assign_ee : (callFunc 112 #[.agg #[(.pointer (some ⟨1, 63, none⟩))], .iface 149 (.agg #[(.pointer (some ⟨1, 63, none⟩))])]).run Tryz.prog w = .ok (.value (.bool true)) w := by kernel_rfl
theorem as_Assign_we : (callFunc 112 #[.agg #[(.pointer (some ⟨1, 146, none⟩))], .iface 149 (.agg #[(.pointer (some ⟨1, 63, none⟩))])]).run Tryz.prog w = .ok (.value (.bool false)) w := by kernel_rfl
theorem as_ValueOf_e (c : Int) : (callFunc 54 #[.iface 63 (.int .i64 c)]).run Tryz.prog w = .ok (.value (.agg #[(.pointer (some ⟨1, 63, none⟩)), .pointer (some ⟨w.heap.size, 0, none⟩), .int .u64 130])) (w.alloc (.cells #[.int .i64 c] 63)) := by kernel_rfl
theorem as_isAs (cs : Array Value) : (Instr.typeAssert (.iface 146 (.agg cs)) 52 154 true).run Tryz.prog w = .ok (.tuple #[.nilIface, .bool false]) w :=
  run_typeAssert_lacksB Tryz.underlying154 (by kernel_rfl) (by kernel_rfl) _ _ _
theorem as_isUnwrap (cs : Array Value) : (Instr.typeAssert (.iface 146 (.agg cs)) 52 157 true).run Tryz.prog w = .ok (.tuple #[.iface 146 (.agg cs), .bool true]) w :=
  run_typeAssert_hasB Tryz.underlying157 (by kernel_rfl) _ _ _
end
section
variable {w : World} {a b : Addr}
theorem find_IsNil : Extern.find Tryz.f56 = some (Extern.ReflectliteValue.method (Extern.ReflectliteValue.valueError "reflectlite.Value.IsNil" 0) Extern.ReflectliteValue.isNil) := by kernel_rfl
theorem find_VElem : Extern.find Tryz.f66 = some (Extern.ReflectliteValue.method (Extern.ReflectliteValue.valueError "reflectlite.Value.Elem" 0) Extern.ReflectliteValue.elem) := by kernel_rfl
theorem find_Set : Extern.find Tryz.f67 = some Extern.ReflectliteValue.set := by kernel_rfl
theorem parts_E (w : World) (b : Addr) : (Extern.ReflectliteValue.parts (.agg #[(.pointer (some ⟨1, 103, none⟩)), .pointer (some b), .int .u64 150])).run Tryz.prog w = .ok (some (103, b, 150)) w := by kernel_rfl
theorem parts_e (w : World) (b : Addr) : (Extern.ReflectliteValue.parts (.agg #[(.pointer (some ⟨1, 63, none⟩)), .pointer (some b), .int .u64 130])).run Tryz.prog w = .ok (some (63, b, 130)) w := by kernel_rfl
theorem parts_d (w : World) (b : Addr) : (Extern.ReflectliteValue.parts (.agg #[(.pointer (some ⟨1, 63, none⟩)), .pointer (some b), .int .u64 386])).run Tryz.prog w = .ok (some (63, b, 386)) w := by kernel_rfl
theorem as_IsNil_E (hc : w.cell? b = some (.pointer (some a))) : (callFunc 56 #[.agg #[(.pointer (some ⟨1, 103, none⟩)), .pointer (some b), .int .u64 150]]).run Tryz.prog w = .ok (.value (.bool false)) w := by
  rw [run_callFunc_extern Tryz.func56 (by kernel_rfl) (by kernel_rfl) (by kernel_rfl) find_IsNil]
  change (Sem.run Tryz.prog (do
    match ← Extern.ReflectliteValue.parts (.agg #[(.pointer (some ⟨1, 103, none⟩)), .pointer (some b), .int .u64 150]) with
    | none => Extern.ReflectliteValue.valueError "reflectlite.Value.IsNil" 0
    | some (t, a, fl) => Extern.ReflectliteValue.isNil t a fl (fl % 32)) w).andThen _ = _
  have hp := parts_E w b
  simp [hp, Extern.ReflectliteValue.isNil, loadVar, isAgg, run_underlying Tryz.underlying103, load, Sem.run, hc]
theorem elem_E (w : World) : (Extern.Rtype.elem? 103).run Tryz.prog w = .ok (some 63) w := by kernel_rfl
theorem mk_e (w : World) (a : Addr) : (Extern.ReflectliteValue.mk 63 a 256).run Tryz.prog w = .ok (.agg #[(.pointer (some ⟨1, 63, none⟩)), .pointer (some a), .int .u64 386]) w := by kernel_rfl
theorem as_VElem_E (hc : w.cell? b = some (.pointer (some a))) : (callFunc 66 #[.agg #[(.pointer (some ⟨1, 103, none⟩)), .pointer (some b), .int .u64 150]]).run Tryz.prog w = .ok (.value (.agg #[(.pointer (some ⟨1, 63, none⟩)), .pointer (some a), .int .u64 386])) w := by
  rw [run_callFunc_extern Tryz.func66 (by kernel_rfl) (by kernel_rfl) (by kernel_rfl) find_VElem]
  change (Sem.run Tryz.prog (do
    match ← Extern.ReflectliteValue.parts (.agg #[(.pointer (some ⟨1, 103, none⟩)), .pointer (some b), .int .u64 150]) with
    | none => Extern.ReflectliteValue.valueError "reflectlite.Value.Elem" 0
    | some (t, a, fl) => Extern.ReflectliteValue.elem t a fl (fl % 32)) w).andThen _ = _
  have hp := parts_E w b
  have he := elem_E w
  have hm := mk_e w a
  simp [hp, he, Extern.ReflectliteValue.elem, Extern.ReflectliteValue.flagAddr, hm, loadVar, isAgg, run_underlying Tryz.underlying103, load, Sem.run, hc]
theorem direct_ee (w : World) : (Extern.Rtype.directlyAssignable 63 63).run Tryz.prog w = .ok true w := by kernel_rfl
theorem agg_e (w : World) : (isAgg 63).run Tryz.prog w = .ok false w := by kernel_rfl
theorem set_eq (v x : Value) : ∃ (zero : Sem Value) (bad : TypeId → Addr → Nat → TypeId → Addr → Sem Value) (other : TypeId → Addr → TypeId → Addr → Value → Sem Value),
    Extern.ReflectliteValue.set #[v, x] = (do
      match (← Extern.ReflectliteValue.parts v, ← Extern.ReflectliteValue.parts x) with
      | (some (dst, a, fl), some (src, b, _)) =>
        if fl / Extern.ReflectliteValue.flagAddr % 2 == 0 then bad dst a fl src b
        else do
          let val ← loadVar src b
          if ← Extern.Rtype.directlyAssignable dst src then do
            storeVar dst a val
            pure (.tuple #[])
          else other dst a src b val
      | _ => zero) := ⟨_, _, _, rfl⟩
theorem as_Set_e {g : Nat} {c c0 : Int} (hb : w.cell? b = some (.int .i64 c)) (ha : w.cell? ⟨g, 0, none⟩ = some (.int .i64 c0)) (hz : w.frozen? ⟨g, 0, none⟩ = false) : (callFunc 67 #[.agg #[(.pointer (some ⟨1, 63, none⟩)), .pointer (some ⟨g, 0, none⟩), .int .u64 386], .agg #[(.pointer (some ⟨1, 63, none⟩)), .pointer (some b), .int .u64 130]]).run Tryz.prog w = .ok (.value (.tuple #[])) (w.setCell ⟨g, 0, none⟩ (.int .i64 c)) := by
  rw [run_callFunc_extern Tryz.func67 (by kernel_rfl) (by kernel_rfl) (by kernel_rfl) find_Set]
  have h1 := parts_d w ⟨g, 0, none⟩
  have h2 := parts_e w b
  have h3 := direct_ee w

  have h5 := agg_e w
  obtain ⟨zero, bad, other, he⟩ := set_eq (.agg #[(.pointer (some ⟨1, 63, none⟩)), .pointer (some ⟨g, 0, none⟩), .int .u64 386]) (.agg #[(.pointer (some ⟨1, 63, none⟩)), .pointer (some b), .int .u64 130])
  rw [he]
  simp [h1, h2, h3, h5, Extern.ReflectliteValue.flagAddr, loadVar, load, store, storeVar, storeCells, Value.cells, Addr.add, Sem.run, hb, ha, hz]
end
end Go.Proofs.YtcfanacfjcgnbaaGreatDoor
