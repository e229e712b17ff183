/- errors.As at an Errno's variable; fault.Code. -/
import Derived.Test.YtcfanacfjcgnbaaGreatDoorAs
import Derived.Deep.LoopGhost
namespace Go.Proofs.YtcfanacfjcgnbaaGreatDoor
open Go Go.RowKit
theorem wrapped_Unwrap (s n e : Value) (w : World) : Calls Tryz.prog 110 #[.agg #[s, n, e]] w fun en w' => en = .returned e ∧ Fr (fun _ => False) w w' := by
  go_enter Tryz.func110, Tryz.ntmps110
  go_wp2
  go_ret
  exact ⟨rfl, (Fr.refl _ _).alloc _⟩
def AsPost (w : World) (g : Nat) (c : Int) (e : Ending) (w' : World) : Prop := e = .returned (.bool true) ∧ Blk w' g 63 #[.int .i64 c] ∧ Fr (fun k => k = g) w w'
set_option maxRecDepth 100000 in
theorem errors_as {w : World} {g : Nat} {b : Addr} {c0 : Int} (hb : Blk w g 63 #[.int .i64 c0]) (hv : w.cell? b = some (.pointer (some ⟨g, 0, none⟩))) (l : List (ByteArray × Int)) (c : Int) :
    Calls Tryz.prog 57 #[errV l c, .iface 103 (.pointer (some ⟨g, 0, none⟩)), .agg #[(.pointer (some ⟨1, 103, none⟩)), .pointer (some b), .int .u64 150], .iface 149 (.agg #[(.pointer (some ⟨1, 63, none⟩))])] w (AsPost w g c) := by
  have k1 := fun w => as_TypeOf_e w
  have k2 := fun w => as_TypeOf_w w
  have k3 := meth_Assign
  have k4 := as_Assign_ee
  have k5 := as_Assign_we
  have k6 := as_isAs
  have k7 := as_isUnwrap
  have k8 := meth_Unwrap
  have hvb : b.block < w.heap.size := World.block_lt_of_cell? w b hv
  go_enter Tryz.func57, Tryz.ntmps57
  go_wp2_with fail
  have hf1 : Fr (fun k => k = g) w (w.alloc (Obj.cells #[(.pointer (some ⟨1, 103, none⟩)), .pointer (some b), .int .u64 150] 127)) := (Fr.refl _ _).alloc _
  have hb6 := Blk.new w 127 #[(.pointer (some ⟨1, 103, none⟩)), .pointer (some b), .int .u64 150]
  have hb1 := hb.alloc (Obj.cells #[(.pointer (some ⟨1, 103, none⟩)), .pointer (some b), .int .u64 150] 127)
  have hv1 : (w.alloc (Obj.cells #[(.pointer (some ⟨1, 103, none⟩)), .pointer (some b), .int .u64 150] 127)).cell? b = some (.pointer (some ⟨g, 0, none⟩)) := (World.cell?_alloc_lt w _ b hvb).trans hv
  go_loopg [0] l.length (fun gk v wr => ∃ r : List (ByteArray × Int), r.length = gk ∧ v = errV r c ∧ Fr (fun _ => False) (w.alloc (Obj.cells #[(.pointer (some ⟨1, 103, none⟩)), .pointer (some b), .int .u64 150] 127)) wr)
  case atStart => exact ⟨l, rfl, rfl, Fr.refl _ _⟩
  case round =>
    obtain ⟨r, hgk, rfl, hf⟩ := hrel
    have hb2 := hb1.fr hf id
    have hb7 := hb6.fr hf id
    have hv2 := hf.cell_some hv1 id
    have d0 := hb7.cell 0
    have d1 := hb7.cell 1
    have d2 := hb7.cell 2
    have e0 := hb2.cell 0
    have z0 := hb2.frozen 0
    cases r with
    | nil =>
      simp only [errV]
      have q1 := as_VElem_E hv2
      have q2 := as_ValueOf_e wr c
      have q3 := as_Set_e (w := wr.alloc (Obj.cells #[.int .i64 c] 63)) (g := g) (b := ⟨wr.heap.size, 0, none⟩) (c := c) (c0 := c0) ((Blk.new _ _ _).cell 0) ((hb2.alloc _).cell 0) ((hb2.alloc _).frozen 0)
      go_wp2
      go_ret
      exact ⟨rfl, (hb2.alloc _).set_ 0 _, Fr.setCell (S := fun k => k = g) (p := ⟨g, 0, none⟩) ((hf1.trans hf (fun _ _ h => h.elim)).alloc _) (fun _ => rfl) _⟩
    | cons x r =>
      simp only [errV]
      obtain ⟨t, v, hv⟩ := errV_iface r c
      have HV := Lib.hid hv
      go_wp2_with (go_at_call 110; refine (wrapped_Unwrap _ _ _ _).mono ?_; rintro e w2 ⟨rfl, hf2⟩)
      go_roundg r.length
      case measure => simp only [List.length_cons] at hgk; omega
      case rel => exact ⟨r, rfl, HV.out.symm, hf.then_ hf2⟩
/-- The variable errors.errorType, as it is laid. -/
def Laid (w : World) : Prop := w.cell? ⟨0, 0, none⟩ = some (.iface 149 (.agg #[(.pointer (some ⟨1, 52, none⟩))]))
theorem Laid.fr {S : Nat → Prop} {w w' : World} (h : Laid w) (hf : Fr S w w') (hs : ¬ S 0) : Laid w' := hf.cell_some h hs
set_option maxRecDepth 100000 in
theorem errors_As {w : World} (hG : Laid w) {g : Nat} {c0 : Int} (hb : Blk w g 63 #[.int .i64 c0]) (_hg : g ≠ 0) (l : List (ByteArray × Int)) (c : Int) :
    Calls Tryz.prog 37 #[errV l c, .iface 103 (.pointer (some ⟨g, 0, none⟩))] w (AsPost w g c) := by
  obtain ⟨t, v, hv⟩ := errV_iface l c
  rw [hv]
  have HV := Lib.hid hv
  clear hv
  have k1 := as_ValueOf_E w ⟨g, 0, none⟩
  have k2 := fun w => as_Type_E w
  have k3 := meth_Kind
  have k4 := as_Kind_E
  have k5 := meth_Elem
  have k6 := as_TElem_E
  have k7 := as_Kind_e
  have k8 := meth_Impl
  have k9 := as_Impl_e
  have hG' : w.cell? ⟨0, 0, none⟩ = some (.iface 149 (.agg #[(.pointer (some ⟨1, 52, none⟩))])) := hG
  have hGb : 0 < w.heap.size := World.block_lt_of_cell? w _ hG'
  have hb2 := Blk.new w 103 #[.pointer (some ⟨g, 0, none⟩)]
  have hb3 := hb2.alloc (Obj.cells #[(.pointer (some ⟨1, 103, none⟩)), .pointer (some ⟨w.heap.size, 0, none⟩), .int .u64 150] 127)
  have hc3 := hb3.cell 0
  have k10 := as_IsNil_E (a := ⟨g, 0, none⟩) (b := ⟨w.heap.size, 0, none⟩) hc3
  go_enter Tryz.func37, Tryz.ntmps37
  go_wp2_with fail
  have hb5 := (hb.alloc (Obj.cells #[.pointer (some ⟨g, 0, none⟩)] 103)).alloc (Obj.cells #[(.pointer (some ⟨1, 103, none⟩)), .pointer (some ⟨w.heap.size, 0, none⟩), .int .u64 150] 127)
  have has := errors_as hb5 hc3 l c
  rw [HV.out] at has
  refine has.mono ?_
  rintro e w3 ⟨rfl, hb6, hf6⟩
  clear has k1 k2 k3 k4 k5 k6 k7 k8 k9 k10 hb2 hb3 hc3 hb5
  go_wp2
  go_ret
  exact ⟨rfl, hb6, (((Fr.refl (fun k => k = g) w).alloc _).alloc _).trans hf6 (fun _ _ h => h)⟩
set_option maxRecDepth 100000 in
theorem fault_Code {w : World} (hG : Laid w) (l : List (ByteArray × Int)) (c : Int) : Calls Tryz.prog 19 #[errV l c] w fun e w' => e = .returned (.int .i64 c) ∧ Fr (fun _ => False) w w' := by
  obtain ⟨t, v, hv⟩ := errV_iface l c
  rw [hv]
  have HV := Lib.hid hv
  clear hv
  have hGb : 0 < w.heap.size := World.block_lt_of_cell? w _ hG
  have hb := Blk.new w 63 #[.int .i64 9]
  have hf : Fr (fun _ => False) w (w.alloc (Obj.cells #[.int .i64 9] 63)) := (Fr.refl _ _).alloc _
  have hG1 := hG.fr hf id
  go_enter Tryz.func19, Tryz.ntmps19
  go_wp2_with fail
  have hAs := errors_As hG1 hb (by omega) l c
  rw [HV.out] at hAs
  refine hAs.mono ?_
  rintro e w3 ⟨rfl, hb3, hf3⟩
  have hc3 := hb3.cell 0
  clear hAs hb
  go_wp2
  go_ret
  exact ⟨rfl, hf.trans hf3 (fun x hx e => by omega)⟩
theorem fault_Code_nil (w : World) : Calls Tryz.prog 19 #[.nilIface] w fun e w' => e = .returned (.int .i64 0) ∧ Fr (fun _ => False) w w' := by
  go_enter Tryz.func19, Tryz.ntmps19
  go_wp2
  go_ret
  exact ⟨rfl, (Fr.refl _ _).alloc _⟩
end Go.Proofs.YtcfanacfjcgnbaaGreatDoor
