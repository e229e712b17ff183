/- errors.As at a *fault.wrapped; fault.Trail. -/
import Derived.Test.YtkbcobbnjiekfaaDoorSetW
import Derived.Test.YtkbcobbnjiekfaaDoorCode
import Derived.Deep.LoopGhost
namespace Go.Proofs.YtkbcobbnjiekfaaDoor
open Go Go.RowKit
theorem errV_one (l : List (ByteArray × Int)) (c : Int) : (errV l c).oneCell' = true := by
  obtain ⟨t, v, h⟩ := errV_iface l c
  rw [h]; rfl
theorem one3 (s : ByteArray) (n : Int) (E : Value) (h : E.oneCell' = true) : (#[.string s, .int .i64 n, E] : Array Value).all (·.oneCell') = true := by
  rw [Array.all_eq_true_iff_forall_mem]
  intro x hx
  simp only [List.mem_toArray, List.mem_cons, List.not_mem_nil, or_false] at hx
  rcases hx with rfl | rfl | rfl
  · rfl
  · rfl
  · exact h
def AsWPost (w : World) (g : Nat) (x : ByteArray × Int) (r : List (ByteArray × Int)) (c : Int) (e : Ending) (w' : World) : Prop := e = .returned (.bool true) ∧ Blk w' g 97 #[.string x.1, .int .i64 x.2, errV r c] ∧ Fr (fun k => k = g) w w'
set_option maxRecDepth 100000 in
theorem errors_as_w {w : World} {g : Nat} {b : Addr} {s0 n0 e0 : Value} (hb : Blk w g 97 #[s0, n0, e0]) (hv : w.cell? b = some (.pointer (some ⟨g, 0, none⟩))) (x : ByteArray × Int) (r : List (ByteArray × Int)) (c : Int) :
    Calls Tryd.prog 68 #[errV (x :: r) c, .iface 98 (.pointer (some ⟨g, 0, none⟩)), .agg #[(.pointer (some ⟨4, 98, none⟩)), .pointer (some b), .int .u64 150], .iface 122 (.agg #[(.pointer (some ⟨4, 97, none⟩))])] w (AsWPost w g x r c) := by
  have k1 := fun w => as_TypeOf_w w
  have k3 := meth_Assign
  have k4 := as_Assign_ww
  have hvb : b.block < w.heap.size := World.block_lt_of_cell? w b hv
  go_enter Tryd.func68, Tryd.ntmps68
  go_wp2_with fail
  have hf1 : Fr (fun k => k = g) w (w.alloc (Obj.cells #[(.pointer (some ⟨4, 98, none⟩)), .pointer (some b), .int .u64 150] 107)) := (Fr.refl _ _).alloc _
  have hb6 := Blk.new w 107 #[(.pointer (some ⟨4, 98, none⟩)), .pointer (some b), .int .u64 150]
  have hb1 := hb.alloc (Obj.cells #[(.pointer (some ⟨4, 98, none⟩)), .pointer (some b), .int .u64 150] 107)
  have hv1 : (w.alloc (Obj.cells #[(.pointer (some ⟨4, 98, none⟩)), .pointer (some b), .int .u64 150] 107)).cell? b = some (.pointer (some ⟨g, 0, none⟩)) := (World.cell?_alloc_lt w _ b hvb).trans hv
  go_loopg [0] 1 (fun gk v wr => gk = 1 ∧ v = errV (x :: r) c ∧ Fr (fun _ => False) (w.alloc (Obj.cells #[(.pointer (some ⟨4, 98, none⟩)), .pointer (some b), .int .u64 150] 107)) wr)
  case atStart => exact ⟨rfl, rfl, Fr.refl _ _⟩
  case round =>
    obtain ⟨hgk, rfl, hf⟩ := hrel
    have hb2 := hb1.fr hf id
    have hb7 := hb6.fr hf id
    have hv2 := hf.cell_some hv1 id
    have d0 := hb7.cell 0
    have d1 := hb7.cell 1
    have d2 := hb7.cell 2
    obtain ⟨s, n⟩ := x
    simp only [errV]
    have h1 := errV_one r c
    generalize hE : errV r c = E at h1
    have q1 := as_VElem_W hv2
    have q2 := fun w => as_ValueOf_w w (.string s) (.int .i64 n) E
    have q3 := as_Set_w (w := wr.alloc (Obj.cells #[.string s, .int .i64 n, E] 97)) (g := g) (h := wr.heap.size) (Blk.new _ _ _) (hb2.alloc _) (one3 s n E h1)
    go_wp2
    go_ret
    subst hE
    exact ⟨rfl, (hb2.alloc _).setRow, (hf1.trans hf (fun _ _ h => h.elim)).alloc _ |>.trans Fr.setRow (fun _ _ h => h)⟩
def AsWNil (w : World) (e : Ending) (w' : World) : Prop := e = .returned (.bool false) ∧ Fr (fun _ => False) w w'
set_option maxRecDepth 100000 in
theorem errors_as_w_nil (w : World) (g : Nat) (b : Addr) (c : Int) :
    Calls Tryd.prog 68 #[errV [] c, .iface 98 (.pointer (some ⟨g, 0, none⟩)), .agg #[(.pointer (some ⟨4, 98, none⟩)), .pointer (some b), .int .u64 150], .iface 122 (.agg #[(.pointer (some ⟨4, 97, none⟩))])] w (AsWNil w) := by
  have k1 := fun w => as_TypeOf_e w
  have k3 := meth_Assign
  have k4 := as_Assign_ew
  have k5 := as_eisAs
  have k6 := as_eisUnwrap
  have k7 := as_eisUnwraps
  go_enter Tryd.func68, Tryd.ntmps68
  go_wp2_with fail
  have hf1 : Fr (fun _ => False) w (w.alloc (Obj.cells #[(.pointer (some ⟨4, 98, none⟩)), .pointer (some b), .int .u64 150] 107)) := (Fr.refl _ _).alloc _
  go_loopg [0] 1 (fun gk v wr => gk = 1 ∧ v = errV [] c ∧ Fr (fun _ => False) w wr)
  case atStart => exact ⟨rfl, rfl, hf1⟩
  case round =>
    obtain ⟨hgk, rfl, hf⟩ := hrel
    simp only [errV]
    go_wp2
    go_ret
    exact ⟨rfl, hf⟩
set_option maxRecDepth 100000 in
theorem errors_As_w {w : World} (hG : Laid w) {g : Nat} {s0 n0 e0 : Value} (hb : Blk w g 97 #[s0, n0, e0]) (x : ByteArray × Int) (r : List (ByteArray × Int)) (c : Int) :
    Calls Tryd.prog 44 #[errV (x :: r) c, .iface 98 (.pointer (some ⟨g, 0, none⟩))] w (AsWPost w g x r c) := by
  obtain ⟨t, v, hv⟩ := errV_iface (x :: r) c
  rw [hv]
  have HV := Lib.hid hv
  clear hv
  have k1 := as_ValueOf_W w ⟨g, 0, none⟩
  have k2 := fun w => as_Type_W w
  have k3 := meth_Kind
  have k4 := as_Kind_W
  have k5 := meth_Elem
  have k6 := as_TElem_W
  have k7 := as_Kind_w
  have k8 := meth_Impl
  have k9 := as_Impl_w
  have hG' : w.cell? ⟨0, 0, none⟩ = some (.iface 122 (.agg #[(.pointer (some ⟨4, 26, none⟩))])) := hG
  have hGb : 0 < w.heap.size := World.block_lt_of_cell? w _ hG'
  have hb2 := Blk.new w 98 #[.pointer (some ⟨g, 0, none⟩)]
  have hb3 := hb2.alloc (Obj.cells #[(.pointer (some ⟨4, 98, none⟩)), .pointer (some ⟨w.heap.size, 0, none⟩), .int .u64 150] 107)
  have hc3 := hb3.cell 0
  have k10 := as_IsNil_W (a := ⟨g, 0, none⟩) (b := ⟨w.heap.size, 0, none⟩) hc3
  go_enter Tryd.func44, Tryd.ntmps44
  go_wp2_with fail
  have hb5 := (hb.alloc (Obj.cells #[.pointer (some ⟨g, 0, none⟩)] 98)).alloc (Obj.cells #[(.pointer (some ⟨4, 98, none⟩)), .pointer (some ⟨w.heap.size, 0, none⟩), .int .u64 150] 107)
  have has := errors_as_w hb5 hc3 x r c
  rw [HV.out] at has
  refine has.mono ?_
  rintro e w3 ⟨rfl, hb6, hf6⟩
  clear has k1 k2 k3 k4 k5 k6 k7 k8 k9 k10 hb2 hb3 hc3 hb5
  go_wp2
  go_ret
  exact ⟨rfl, hb6, (((Fr.refl (fun k => k = g) w).alloc _).alloc _).trans hf6 (fun _ _ h => h)⟩
set_option maxRecDepth 100000 in
theorem errors_As_w_nil {w : World} (hG : Laid w) (g : Nat) (c : Int) :
    Calls Tryd.prog 44 #[errV [] c, .iface 98 (.pointer (some ⟨g, 0, none⟩))] w (AsWNil w) := by
  obtain ⟨t, v, hv⟩ := errV_iface [] c
  rw [hv]
  have HV := Lib.hid hv
  clear hv
  have k1 := as_ValueOf_W w ⟨g, 0, none⟩
  have k2 := fun w => as_Type_W w
  have k3 := meth_Kind
  have k4 := as_Kind_W
  have k5 := meth_Elem
  have k6 := as_TElem_W
  have k7 := as_Kind_w
  have k8 := meth_Impl
  have k9 := as_Impl_w
  have hG' : w.cell? ⟨0, 0, none⟩ = some (.iface 122 (.agg #[(.pointer (some ⟨4, 26, none⟩))])) := hG
  have hGb : 0 < w.heap.size := World.block_lt_of_cell? w _ hG'
  have hb2 := Blk.new w 98 #[.pointer (some ⟨g, 0, none⟩)]
  have hb3 := hb2.alloc (Obj.cells #[(.pointer (some ⟨4, 98, none⟩)), .pointer (some ⟨w.heap.size, 0, none⟩), .int .u64 150] 107)
  have hc3 := hb3.cell 0
  have k10 := as_IsNil_W (a := ⟨g, 0, none⟩) (b := ⟨w.heap.size, 0, none⟩) hc3
  go_enter Tryd.func44, Tryd.ntmps44
  go_wp2_with fail
  have has := errors_as_w_nil ((w.alloc (Obj.cells #[.pointer (some ⟨g, 0, none⟩)] 98)).alloc (Obj.cells #[(.pointer (some ⟨4, 98, none⟩)), .pointer (some ⟨w.heap.size, 0, none⟩), .int .u64 150] 107)) g ⟨w.heap.size, 0, none⟩ c
  rw [HV.out] at has
  refine has.mono ?_
  rintro e w3 ⟨rfl, hf6⟩
  clear has k1 k2 k3 k4 k5 k6 k7 k8 k9 k10 hb2 hb3 hc3
  go_wp2
  go_ret
  exact ⟨rfl, (((Fr.refl (fun _ => False) w).alloc _).alloc _).then_ hf6⟩
end Go.Proofs.YtkbcobbnjiekfaaDoor
