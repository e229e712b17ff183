/- cohortlaw10: Great. -/
import Derived.Test.YtcfanacfjcgnbaaGreatDoorTxnR
import Derived.BigQuiet
namespace Go.Proofs.YtcfanacfjcgnbaaGreatDoor
open Go Go.RowKit
def SomeBool (w : World) (e : Ending) (w' : World) : Prop := ∃ b, e = .returned (.bool b) ∧ Fr (fun _ => False) w w'
set_option maxRecDepth 100000 in
set_option maxHeartbeats 1000000 in
theorem law10_Great {w : World} {F : Nat → Prop} {A B : Option Addr} {cr cw : Nat} {c n : Int} {R : List (ByteArray × Int)} {W : List (ByteArray × ByteArray)} (hr : ReadRow w F A R) (hw : WriteRow w F B W) (hlR : R.length ≤ 9223372036854775807) (hlW : W.length ≤ 9223372036854775807) :
    Calls Tryz.prog 7 #[.agg #[.int .i64 c, .int .i64 n, .slice A R.length cr, .slice B W.length cw]] w (SomeBool w) := by
  have HRr := Lib.hid hr
  have HWr := Lib.hid hw
  have hB0 := Blk.new w 25 #[.int .i64 c, .int .i64 n, .slice A R.length cr, .slice B W.length cw]
  have hf0 : Fr (fun _ => False) w (w.alloc (Obj.cells #[.int .i64 c, .int .i64 n, .slice A R.length cr, .slice B W.length cw] 25)) := (Fr.refl _ _).alloc _
  obtain ⟨gB, hgB⟩ : ∃ g, Hid (w.heap.size = g) := ⟨_, rfl⟩
  clear hr hw
  go_enter Tryz.func7, Tryz.ntmps7
  go_wp2_with fail
  rw [hgB.out] at hB0 ⊢
  generalize w.alloc (Obj.cells #[.int .i64 c, .int .i64 n, .slice A R.length cr, .slice B W.length cw] 25) = w0 at *
  go_loopw [3, 4] (fun nv ix wr => ∃ (k : Nat) (z : Int), k ≤ W.length ∧ nv = .int .i64 z ∧ ix = .int .i64 k ∧ Blk wr gB 25 #[.int .i64 c, .int .i64 n, .slice A R.length cr, .slice B W.length cw] ∧ Fr (fun _ => False) w wr) (fun _ ix _ => W.length - (intOf ix).toNat)
  case atStart => exact ⟨0, _, by omega, rfl, rfl, hB0, hf0⟩
  case round =>
    clear hB0 hf0
    obtain ⟨k, z, hk, rfl, rfl, hB0, hf0⟩ := hrel
    have hcl := hB0.cell 3
    by_cases hlt : k < W.length
    · have hlt' : (k : Int) < (W.length : Int) := by omega
      by_cases hz : z < 3000
      · obtain ⟨x, hx⟩ : ∃ x, W[k]? = some x := ⟨W[k], List.getElem?_eq_getElem hlt⟩
        obtain ⟨b, o, rfl, hFb, e0, e1⟩ := HWr.out k x hx
        have d0 := hf0.cell_some e0 id
        have d1 := hf0.cell_some e1 id
        clear hx e0 e1
        go_wp2_with fail
        go_big_quiet (fail)
        go_wp2_with fail
        go_roundw
        case rel => exact ⟨k + 1, _, by omega, rfl, by go_num, hB0.drewN _, hf0.drewN _⟩
        case measure => simp [intOf]; omega
      · clear hlt'
        go_wp2_with fail
        go_loopw [3, 5] (fun nv ix wr => ∃ (k : Nat) (z : Int), k ≤ R.length ∧ nv = .int .i64 z ∧ ix = .int .i64 k ∧ Blk wr gB 25 #[.int .i64 c, .int .i64 n, .slice A R.length cr, .slice B W.length cw] ∧ Fr (fun _ => False) w wr) (fun _ ix _ => R.length - (intOf ix).toNat)
        case atStart => exact ⟨0, _, by omega, rfl, rfl, hB0, hf0⟩
        case round =>
          clear hB0 hf0
          obtain ⟨k, z, hk, rfl, rfl, hB0, hf0⟩ := hrel
          have hcl := hB0.cell 2
          by_cases hlt : k < R.length
          · have hlt' : (k : Int) < (R.length : Int) := by omega
            by_cases hz : z < 3000
            · obtain ⟨x, hx⟩ : ∃ x, R[k]? = some x := ⟨R[k], List.getElem?_eq_getElem hlt⟩
              obtain ⟨b, o, rfl, hFb, e0, e1⟩ := HRr.out k x hx
              have d0 := hf0.cell_some e0 id
              have d1 := hf0.cell_some e1 id
              clear hx e0 e1
              go_wp2_with fail
              go_roundw
              case rel => exact ⟨k + 1, _, by omega, rfl, by go_num, hB0, hf0⟩
              case measure => simp [intOf]; omega
            · clear hlt'
              go_wp2_with fail
              go_ret
              exact ⟨_, rfl, hf0⟩
          · have hlt' : ¬ (k : Int) < (R.length : Int) := by omega
            go_wp2_with fail
            go_ret
            exact ⟨_, rfl, hf0⟩
    · have hlt' : ¬ (k : Int) < (W.length : Int) := by omega
      go_wp2_with fail
      go_loopw [3, 5] (fun nv ix wr => ∃ (k : Nat) (z : Int), k ≤ R.length ∧ nv = .int .i64 z ∧ ix = .int .i64 k ∧ Blk wr gB 25 #[.int .i64 c, .int .i64 n, .slice A R.length cr, .slice B W.length cw] ∧ Fr (fun _ => False) w wr) (fun _ ix _ => R.length - (intOf ix).toNat)
      case atStart => exact ⟨0, _, by omega, rfl, rfl, hB0, hf0⟩
      case round =>
        clear hB0 hf0
        obtain ⟨k, z, hk, rfl, rfl, hB0, hf0⟩ := hrel
        have hcl := hB0.cell 2
        by_cases hlt : k < R.length
        · have hlt' : (k : Int) < (R.length : Int) := by omega
          by_cases hz : z < 3000
          · obtain ⟨x, hx⟩ : ∃ x, R[k]? = some x := ⟨R[k], List.getElem?_eq_getElem hlt⟩
            obtain ⟨b, o, rfl, hFb, e0, e1⟩ := HRr.out k x hx
            have d0 := hf0.cell_some e0 id
            have d1 := hf0.cell_some e1 id
            clear hx e0 e1
            go_wp2_with fail
            go_roundw
            case rel => exact ⟨k + 1, _, by omega, rfl, by go_num, hB0, hf0⟩
            case measure => simp [intOf]; omega
          · clear hlt'
            go_wp2_with fail
            go_ret
            exact ⟨_, rfl, hf0⟩
        · have hlt' : ¬ (k : Int) < (R.length : Int) := by omega
          go_wp2_with fail
          go_ret
          exact ⟨_, rfl, hf0⟩
end Go.Proofs.YtcfanacfjcgnbaaGreatDoor
