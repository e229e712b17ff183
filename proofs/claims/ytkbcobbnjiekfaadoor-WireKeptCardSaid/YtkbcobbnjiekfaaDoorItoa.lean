/- strconv.Itoa of a number below 524288, whatever the table internal/strconv.uint64pow10 holds. -/
import Derived.Test.YtkbcobbnjiekfaaDoorText
import Derived.Test.YtkbcobbnjiekfaaDoorConv
import Derived.Shelf.Strconv.Itoa0
import Derived.Lib.ItoaNum
namespace Go.Proofs.YtkbcobbnjiekfaaDoor
open Go Go.RowKit
def lenRen : Go.Shelf.Ren := ⟨fun | 129 => 86 | n => n, fun | 3 => 3 | 9 => 9 | 4 => 4 | 5 => 5 | 46 => 103 | 53 => 136 | n => n, fun | n => n⟩
theorem lenLays : Go.Proofs.Lays.n129 Tryd.prog lenRen := {
  mixed := by kernel_rfl
  f129 := Tryd.func86.trans (congrArg some (by kernel_rfl))
  t3 := Tryd.underlying3
  a3 := Tryd.isAgg3
  z3 := Tryd.sizeOf3
  v3 := Tryd.zeroValue3
  t4 := Tryd.underlying4
  a4 := Tryd.isAgg4
  z4 := Tryd.sizeOf4
  v4 := Tryd.zeroValue4
  t5 := Tryd.underlying5
  a5 := Tryd.isAgg5
  z5 := Tryd.sizeOf5
  v5 := Tryd.zeroValue5
  t9 := Tryd.underlying9
  a9 := Tryd.isAgg9
  z9 := Tryd.sizeOf9
  v9 := Tryd.zeroValue9
  t46 := Tryd.underlying103
  a46 := Tryd.isAgg103
  z46 := Tryd.sizeOf103
  v46 := Tryd.zeroValue103
  t53 := Tryd.underlying136
  a53 := Tryd.isAgg136
  z53 := Tryd.sizeOf136
  v53 := Tryd.zeroValue136 }
theorem bits_Len64 (u : Nat) (hu : u < 524288) (w : World) : Calls Tryd.prog 86 #[.int .u64 u] w fun e w' => e = .returned (.int .i64 (Lib.bitLen u)) ∧ w = w' :=
  (Any.bits_Len64 lenLays u w (by omega) (by omega)).mono fun _ _ ⟨h1, h2⟩ => ⟨by simpa using h1, h2.symm⟩
def nd0 (u : Nat) : Nat := Lib.bitLen u * 78913 / 262144
theorem strconv_log10 (x : Nat) (hx : x ≤ 64) (w : World) : Calls Tryd.prog 85 #[.int .i64 x] w fun e w' => e = .returned (.int .i64 ((x * 78913 / 262144 : Nat) : Int)) ∧ w = w' := by
  go_enter Tryd.func85, Tryd.ntmps85
  go_wp2
  go_ret
  exact ⟨by simp, rfl⟩
theorem strconv_bool2 (b : Bool) (w : World) : Calls Tryd.prog 87 #[.bool b] w fun e w' => e = .returned (.int .i64 (if b then 1 else 0)) ∧ w = w' := by
  cases b
  · go_enter Tryd.func87, Tryd.ntmps87
    go_wp2
    go_ret
    exact ⟨rfl, rfl⟩
  · go_enter Tryd.func87, Tryd.ntmps87
    go_wp2
    go_ret
    exact ⟨rfl, rfl⟩
theorem nd0_bounds {u : Nat} (h0 : 100 ≤ u) (hu : u < 524288) : 2 ≤ nd0 u ∧ nd0 u ≤ 5 := by
  have h1 := Lib.bitLen_le u 19 (by omega) (by simpa using hu)
  obtain ⟨_, h2, h3⟩ := Lib.bitLenAux_bounds 64 u (by omega) (by omega)
  have h4 : 7 ≤ Lib.bitLen u := by
    apply Classical.byContradiction
    intro hn
    have : (2 : Nat) ^ Lib.bitLen u ≤ 2 ^ 6 := Nat.pow_le_pow_right (by omega) (by omega)
    have h5 : u < 2 ^ Lib.bitLen u := h3
    omega
  unfold nd0
  omega
/-- The table of powers as it lies. -/
def Tab (w : World) (tb : Nat → Int) : Prop := ∀ k, k < 20 → w.cell? ⟨1, k, none⟩ = some (.int .u64 (tb k))
theorem Tab.fr {w w' : World} {tb : Nat → Int} (h : Tab w tb) (hf : Fr (fun _ => False) w w') : Tab w' tb := fun k hk => hf.cell_some (h k hk) id
def ndO (tb : Nat → Int) (u : Nat) : Nat := nd0 u + if tb (nd0 u) ≤ u then 1 else 0
theorem strconv_numDigits {w : World} {tb : Nat → Int} (hT : Tab w tb) (u : Nat) (h0 : 100 ≤ u) (hu : u < 524288) : Calls Tryd.prog 82 #[.int .u64 u] w fun e w' => e = .returned (.int .i64 (ndO tb u)) ∧ w = w' := by
  obtain ⟨h1, h2⟩ := nd0_bounds h0 hu
  have c0 := hT (nd0 u) (by omega)
  have HL := Lib.bitLen_le u 19 (by omega) (by simpa using hu)
  have hlog := strconv_log10 (Lib.bitLen u) (by omega)
  have hnd : (Lib.bitLen u * 78913 / 262144 : Nat) = nd0 u := rfl
  rw [hnd] at hlog
  have HLOG := Lib.hid hlog
  clear hlog hnd
  unfold ndO
  by_cases hle : tb (nd0 u) ≤ (u : Int)
  · rw [if_pos hle]
    go_enter Tryd.func82, Tryd.ntmps82
    go_wp2_with (first | (go_at_call 86; refine (bits_Len64 u hu _).mono ?_; rintro e w' ⟨rfl, rfl⟩) | (go_at_call 85; refine (HLOG.out _).mono ?_; rintro e w' ⟨rfl, rfl⟩) | (go_at_call 87; refine (strconv_bool2 _ _).mono ?_; rintro e w' ⟨rfl, rfl⟩))
    go_ret
    exact ⟨rfl, rfl⟩
  · rw [if_neg hle]
    go_enter Tryd.func82, Tryd.ntmps82
    go_wp2_with (first | (go_at_call 86; refine (bits_Len64 u hu _).mono ?_; rintro e w' ⟨rfl, rfl⟩) | (go_at_call 85; refine (HLOG.out _).mono ?_; rintro e w' ⟨rfl, rfl⟩) | (go_at_call 87; refine (strconv_bool2 _ _).mono ?_; rintro e w' ⟨rfl, rfl⟩))
    go_ret
    exact ⟨rfl, rfl⟩
def smalls : ByteArray := (⟨#[48, 48, 48, 49, 48, 50, 48, 51, 48, 52, 48, 53, 48, 54, 48, 55, 48, 56, 48, 57, 49, 48, 49, 49, 49, 50, 49, 51, 49, 52, 49, 53, 49, 54, 49, 55, 49, 56, 49, 57, 50, 48, 50, 49, 50, 50, 50, 51, 50, 52, 50, 53, 50, 54, 50, 55, 50, 56, 50, 57, 51, 48, 51, 49, 51, 50, 51, 51, 51, 52, 51, 53, 51, 54, 51, 55, 51, 56, 51, 57, 52, 48, 52, 49, 52, 50, 52, 51, 52, 52, 52, 53, 52, 54, 52, 55, 52, 56, 52, 57, 53, 48, 53, 49, 53, 50, 53, 51, 53, 52, 53, 53, 53, 54, 53, 55, 53, 56, 53, 57, 54, 48, 54, 49, 54, 50, 54, 51, 54, 52, 54, 53, 54, 54, 54, 55, 54, 56, 54, 57, 55, 48, 55, 49, 55, 50, 55, 51, 55, 52, 55, 53, 55, 54, 55, 55, 55, 56, 55, 57, 56, 48, 56, 49, 56, 50, 56, 51, 56, 52, 56, 53, 56, 54, 56, 55, 56, 56, 56, 57, 57, 48, 57, 49, 57, 50, 57, 51, 57, 52, 57, 53, 57, 54, 57, 55, 57, 56, 57, 57]⟩ : ByteArray)
def smallAt (k : Nat) : Int := if h : k < smalls.size then (smalls[k]'h).toNat else 0
theorem small_at (k : Nat) (h : k < smalls.size) : ((smalls[k]'h).toNat : Int) = smallAt k := by rw [smallAt, dif_pos h]
theorem wrap_u32 (x : Nat) (h : x ≤ 198) : IntKind.u32.wrap ((x : Int) + 1) = (x : Int) + 1 := by
  unfold IntKind.wrap
  simp [IntKind.signed, IntKind.bits]
  omega
set_option maxRecDepth 100000 in
set_option maxHeartbeats 1000000 in
theorem fmt_2 {w : World} {b : Nat} (hb : Blk w b 135 #[.int .u8 0, .int .u8 0, .int .u8 0, .int .u8 0, .int .u8 0, .int .u8 0, .int .u8 0, .int .u8 0, .int .u8 0, .int .u8 0, .int .u8 0, .int .u8 0, .int .u8 0, .int .u8 0, .int .u8 0, .int .u8 0, .int .u8 0, .int .u8 0, .int .u8 0, .int .u8 0, .int .u8 0, .int .u8 0, .int .u8 0, .int .u8 0]) (u : Nat) (hu : u < 524288) :
    Calls Tryd.prog 83 #[.slice (some ⟨b, 1, none⟩) 2 23, .int .u64 u] w fun e w' => e = .returned (.tuple #[]) ∧ Fr (fun k => k = b) w w' ∧ Blk w' b 135 #[.int .u8 0, .int .u8 (smallAt (u % 100 * 2)), .int .u8 (smallAt (u % 100 * 2 + 1)), .int .u8 0, .int .u8 0, .int .u8 0, .int .u8 0, .int .u8 0, .int .u8 0, .int .u8 0, .int .u8 0, .int .u8 0, .int .u8 0, .int .u8 0, .int .u8 0, .int .u8 0, .int .u8 0, .int .u8 0, .int .u8 0, .int .u8 0, .int .u8 0, .int .u8 0, .int .u8 0, .int .u8 0] := by
  have c1 : w.cell? ⟨b, 1, none⟩ = some (.int .u8 0) := hb.cell 1
  have z1 := hb.frozen 1
  have c2 : w.cell? ⟨b, 2, none⟩ = some (.int .u8 0) := hb.cell 2
  have z2 := hb.frozen 2
  obtain ⟨x0, Hx0⟩ : ∃ x0 : Nat, Hid (u % 100 * 2 = x0) := ⟨_, rfl⟩
  have ex0 : (u : Int) % 100 * 2 = (x0 : Int) := by have := Hx0.out; omega
  have ax0 : x0 ≤ 198 := by have := Hx0.out; omega
  have bx0 : (x0 : Int) < 200 := by omega
  have dx0 : (x0 : Int) + 1 < 200 := by omega
  have fx0 := wrap_u32 x0 ax0
  have gx0 : (0 : Int) ≤ (x0 : Int) + 1 := by omega
  have hx0 : (0 : Int) ≤ (x0 : Int) := by omega
  have hu1 : (u : Int) < 524288 := by omega
  go_enter Tryd.func83, Tryd.ntmps83
  go_wp2_with fail
  go_loopw [1, 4] (fun v n wr => v = .int .u64 u ∧ n = .int .i64 2 ∧ w = wr) (fun _ _ _ => 0)
  case atStart => exact ⟨rfl, rfl, rfl⟩
  case round =>
    obtain ⟨rfl, rfl, rfl⟩ := hrel
    go_wp2_with fail
    go_region
    go_wp2_with fail
    refine bodyPost_end (v := .tuple #[]) (by simp [results, go_sem]) rfl ?_
    refine ⟨rfl, (((Fr.refl (fun k => k = b) w).setCell (p := ⟨b, 2, none⟩) (fun _ => rfl) _).setCell (p := ⟨b, 1, none⟩) (fun _ => rfl) _).drew, ?_⟩
    rw [Hx0.out, ← small_at (x0 + 1) (by show _ < 200; omega), ← small_at x0 (by show _ < 200; omega)]
    exact ((hb.set_ 2 _).set_ 1 _).drew
set_option maxRecDepth 100000 in
set_option maxHeartbeats 1000000 in
theorem fmt_3 {w : World} {b : Nat} (hb : Blk w b 135 #[.int .u8 0, .int .u8 0, .int .u8 0, .int .u8 0, .int .u8 0, .int .u8 0, .int .u8 0, .int .u8 0, .int .u8 0, .int .u8 0, .int .u8 0, .int .u8 0, .int .u8 0, .int .u8 0, .int .u8 0, .int .u8 0, .int .u8 0, .int .u8 0, .int .u8 0, .int .u8 0, .int .u8 0, .int .u8 0, .int .u8 0, .int .u8 0]) (u : Nat) (hu : u < 524288) :
    Calls Tryd.prog 83 #[.slice (some ⟨b, 1, none⟩) 3 23, .int .u64 u] w fun e w' => e = .returned (.tuple #[]) ∧ Fr (fun k => k = b) w w' ∧ Blk w' b 135 #[.int .u8 0, .int .u8 ((48 + (u : Int) / 100) % 256), .int .u8 (smallAt (u % 100 * 2)), .int .u8 (smallAt (u % 100 * 2 + 1)), .int .u8 0, .int .u8 0, .int .u8 0, .int .u8 0, .int .u8 0, .int .u8 0, .int .u8 0, .int .u8 0, .int .u8 0, .int .u8 0, .int .u8 0, .int .u8 0, .int .u8 0, .int .u8 0, .int .u8 0, .int .u8 0, .int .u8 0, .int .u8 0, .int .u8 0, .int .u8 0] := by
  have c1 : w.cell? ⟨b, 1, none⟩ = some (.int .u8 0) := hb.cell 1
  have z1 := hb.frozen 1
  have c2 : w.cell? ⟨b, 2, none⟩ = some (.int .u8 0) := hb.cell 2
  have z2 := hb.frozen 2
  have c3 : w.cell? ⟨b, 3, none⟩ = some (.int .u8 0) := hb.cell 3
  have z3 := hb.frozen 3
  obtain ⟨x0, Hx0⟩ : ∃ x0 : Nat, Hid (u % 100 * 2 = x0) := ⟨_, rfl⟩
  have ex0 : (u : Int) % 100 * 2 = (x0 : Int) := by have := Hx0.out; omega
  have ax0 : x0 ≤ 198 := by have := Hx0.out; omega
  have bx0 : (x0 : Int) < 200 := by omega
  have dx0 : (x0 : Int) + 1 < 200 := by omega
  have fx0 := wrap_u32 x0 ax0
  have gx0 : (0 : Int) ≤ (x0 : Int) + 1 := by omega
  have hx0 : (0 : Int) ≤ (x0 : Int) := by omega
  have hu1 : (u : Int) < 524288 := by omega
  go_enter Tryd.func83, Tryd.ntmps83
  go_wp2_with fail
  go_loopw [1, 4] (fun v n wr => v = .int .u64 u ∧ n = .int .i64 3 ∧ w = wr) (fun _ _ _ => 0)
  case atStart => exact ⟨rfl, rfl, rfl⟩
  case round =>
    obtain ⟨rfl, rfl, rfl⟩ := hrel
    go_wp2_with fail
    go_region
    go_wp2_with fail
    refine bodyPost_end (v := .tuple #[]) (by simp [results, go_sem]) rfl ?_
    refine ⟨rfl, ((((Fr.refl (fun k => k = b) w).setCell (p := ⟨b, 3, none⟩) (fun _ => rfl) _).setCell (p := ⟨b, 2, none⟩) (fun _ => rfl) _).setCell (p := ⟨b, 1, none⟩) (fun _ => rfl) _).drew, ?_⟩
    rw [Hx0.out, ← small_at (x0 + 1) (by show _ < 200; omega), ← small_at x0 (by show _ < 200; omega)]
    exact (((hb.set_ 3 _).set_ 2 _).set_ 1 _).drew
set_option maxRecDepth 100000 in
set_option maxHeartbeats 1000000 in
theorem fmt_4 {w : World} {b : Nat} (hb : Blk w b 135 #[.int .u8 0, .int .u8 0, .int .u8 0, .int .u8 0, .int .u8 0, .int .u8 0, .int .u8 0, .int .u8 0, .int .u8 0, .int .u8 0, .int .u8 0, .int .u8 0, .int .u8 0, .int .u8 0, .int .u8 0, .int .u8 0, .int .u8 0, .int .u8 0, .int .u8 0, .int .u8 0, .int .u8 0, .int .u8 0, .int .u8 0, .int .u8 0]) (u : Nat) (hu : u < 524288) :
    Calls Tryd.prog 83 #[.slice (some ⟨b, 1, none⟩) 4 23, .int .u64 u] w fun e w' => e = .returned (.tuple #[]) ∧ Fr (fun k => k = b) w w' ∧ Blk w' b 135 #[.int .u8 0, .int .u8 (smallAt (u % 10000 / 100 * 2)), .int .u8 (smallAt (u % 10000 / 100 * 2 + 1)), .int .u8 (smallAt (u % 100 * 2)), .int .u8 (smallAt (u % 100 * 2 + 1)), .int .u8 0, .int .u8 0, .int .u8 0, .int .u8 0, .int .u8 0, .int .u8 0, .int .u8 0, .int .u8 0, .int .u8 0, .int .u8 0, .int .u8 0, .int .u8 0, .int .u8 0, .int .u8 0, .int .u8 0, .int .u8 0, .int .u8 0, .int .u8 0, .int .u8 0] := by
  have c1 : w.cell? ⟨b, 1, none⟩ = some (.int .u8 0) := hb.cell 1
  have z1 := hb.frozen 1
  have c2 : w.cell? ⟨b, 2, none⟩ = some (.int .u8 0) := hb.cell 2
  have z2 := hb.frozen 2
  have c3 : w.cell? ⟨b, 3, none⟩ = some (.int .u8 0) := hb.cell 3
  have z3 := hb.frozen 3
  have c4 : w.cell? ⟨b, 4, none⟩ = some (.int .u8 0) := hb.cell 4
  have z4 := hb.frozen 4
  obtain ⟨x0, Hx0⟩ : ∃ x0 : Nat, Hid (u % 100 * 2 = x0) := ⟨_, rfl⟩
  have ex0 : (u : Int) % 100 * 2 = (x0 : Int) := by have := Hx0.out; omega
  have ax0 : x0 ≤ 198 := by have := Hx0.out; omega
  have bx0 : (x0 : Int) < 200 := by omega
  have dx0 : (x0 : Int) + 1 < 200 := by omega
  have fx0 := wrap_u32 x0 ax0
  have gx0 : (0 : Int) ≤ (x0 : Int) + 1 := by omega
  have hx0 : (0 : Int) ≤ (x0 : Int) := by omega
  obtain ⟨x1, Hx1⟩ : ∃ x1 : Nat, Hid (u % 10000 / 100 * 2 = x1) := ⟨_, rfl⟩
  have ex1 : (u : Int) % 10000 / 100 * 2 = (x1 : Int) := by have := Hx1.out; omega
  have ax1 : x1 ≤ 198 := by have := Hx1.out; omega
  have bx1 : (x1 : Int) < 200 := by omega
  have dx1 : (x1 : Int) + 1 < 200 := by omega
  have fx1 := wrap_u32 x1 ax1
  have gx1 : (0 : Int) ≤ (x1 : Int) + 1 := by omega
  have hx1 : (0 : Int) ≤ (x1 : Int) := by omega
  have hu1 : (u : Int) < 524288 := by omega
  go_enter Tryd.func83, Tryd.ntmps83
  go_wp2_with fail
  go_loopw [1, 4] (fun v n wr => v = .int .u64 u ∧ n = .int .i64 4 ∧ w = wr) (fun _ _ _ => 0)
  case atStart => exact ⟨rfl, rfl, rfl⟩
  case round =>
    obtain ⟨rfl, rfl, rfl⟩ := hrel
    go_wp2_with fail
    go_region
    go_wp2_with fail
    go_region
    go_wp2_with fail
    refine bodyPost_end (v := .tuple #[]) (by simp [results, go_sem]) rfl ?_
    refine ⟨rfl, (((((Fr.refl (fun k => k = b) w).setCell (p := ⟨b, 4, none⟩) (fun _ => rfl) _).setCell (p := ⟨b, 3, none⟩) (fun _ => rfl) _).setCell (p := ⟨b, 2, none⟩) (fun _ => rfl) _).setCell (p := ⟨b, 1, none⟩) (fun _ => rfl) _).drew.drew, ?_⟩
    rw [Hx0.out, ← small_at (x0 + 1) (by show _ < 200; omega), ← small_at x0 (by show _ < 200; omega), Hx1.out, ← small_at (x1 + 1) (by show _ < 200; omega), ← small_at x1 (by show _ < 200; omega)]
    exact ((((hb.set_ 4 _).set_ 3 _).set_ 2 _).set_ 1 _).drew.drew
set_option maxRecDepth 100000 in
set_option maxHeartbeats 1000000 in
theorem fmt_5 {w : World} {b : Nat} (hb : Blk w b 135 #[.int .u8 0, .int .u8 0, .int .u8 0, .int .u8 0, .int .u8 0, .int .u8 0, .int .u8 0, .int .u8 0, .int .u8 0, .int .u8 0, .int .u8 0, .int .u8 0, .int .u8 0, .int .u8 0, .int .u8 0, .int .u8 0, .int .u8 0, .int .u8 0, .int .u8 0, .int .u8 0, .int .u8 0, .int .u8 0, .int .u8 0, .int .u8 0]) (u : Nat) (hu : u < 524288) :
    Calls Tryd.prog 83 #[.slice (some ⟨b, 1, none⟩) 5 23, .int .u64 u] w fun e w' => e = .returned (.tuple #[]) ∧ Fr (fun k => k = b) w w' ∧ Blk w' b 135 #[.int .u8 0, .int .u8 (48 + (u : Int) / 10000), .int .u8 (smallAt (u % 10000 / 100 * 2)), .int .u8 (smallAt (u % 10000 / 100 * 2 + 1)), .int .u8 (smallAt (u % 100 * 2)), .int .u8 (smallAt (u % 100 * 2 + 1)), .int .u8 0, .int .u8 0, .int .u8 0, .int .u8 0, .int .u8 0, .int .u8 0, .int .u8 0, .int .u8 0, .int .u8 0, .int .u8 0, .int .u8 0, .int .u8 0, .int .u8 0, .int .u8 0, .int .u8 0, .int .u8 0, .int .u8 0, .int .u8 0] := by
  have c1 : w.cell? ⟨b, 1, none⟩ = some (.int .u8 0) := hb.cell 1
  have z1 := hb.frozen 1
  have c2 : w.cell? ⟨b, 2, none⟩ = some (.int .u8 0) := hb.cell 2
  have z2 := hb.frozen 2
  have c3 : w.cell? ⟨b, 3, none⟩ = some (.int .u8 0) := hb.cell 3
  have z3 := hb.frozen 3
  have c4 : w.cell? ⟨b, 4, none⟩ = some (.int .u8 0) := hb.cell 4
  have z4 := hb.frozen 4
  have c5 : w.cell? ⟨b, 5, none⟩ = some (.int .u8 0) := hb.cell 5
  have z5 := hb.frozen 5
  obtain ⟨x0, Hx0⟩ : ∃ x0 : Nat, Hid (u % 100 * 2 = x0) := ⟨_, rfl⟩
  have ex0 : (u : Int) % 100 * 2 = (x0 : Int) := by have := Hx0.out; omega
  have ax0 : x0 ≤ 198 := by have := Hx0.out; omega
  have bx0 : (x0 : Int) < 200 := by omega
  have dx0 : (x0 : Int) + 1 < 200 := by omega
  have fx0 := wrap_u32 x0 ax0
  have gx0 : (0 : Int) ≤ (x0 : Int) + 1 := by omega
  have hx0 : (0 : Int) ≤ (x0 : Int) := by omega
  obtain ⟨x1, Hx1⟩ : ∃ x1 : Nat, Hid (u % 10000 / 100 * 2 = x1) := ⟨_, rfl⟩
  have ex1 : (u : Int) % 10000 / 100 * 2 = (x1 : Int) := by have := Hx1.out; omega
  have ax1 : x1 ≤ 198 := by have := Hx1.out; omega
  have bx1 : (x1 : Int) < 200 := by omega
  have dx1 : (x1 : Int) + 1 < 200 := by omega
  have fx1 := wrap_u32 x1 ax1
  have gx1 : (0 : Int) ≤ (x1 : Int) + 1 := by omega
  have hx1 : (0 : Int) ≤ (x1 : Int) := by omega
  have hu1 : (u : Int) < 524288 := by omega
  go_enter Tryd.func83, Tryd.ntmps83
  go_wp2_with fail
  go_loopw [1, 4] (fun v n wr => v = .int .u64 u ∧ n = .int .i64 5 ∧ w = wr) (fun _ _ _ => 0)
  case atStart => exact ⟨rfl, rfl, rfl⟩
  case round =>
    obtain ⟨rfl, rfl, rfl⟩ := hrel
    go_wp2_with fail
    go_region
    go_wp2_with fail
    go_region
    go_wp2_with fail
    refine bodyPost_end (v := .tuple #[]) (by simp [results, go_sem]) rfl ?_
    refine ⟨rfl, ((((((Fr.refl (fun k => k = b) w).setCell (p := ⟨b, 5, none⟩) (fun _ => rfl) _).setCell (p := ⟨b, 4, none⟩) (fun _ => rfl) _).setCell (p := ⟨b, 3, none⟩) (fun _ => rfl) _).setCell (p := ⟨b, 2, none⟩) (fun _ => rfl) _).setCell (p := ⟨b, 1, none⟩) (fun _ => rfl) _).drew.drew, ?_⟩
    rw [Hx0.out, ← small_at (x0 + 1) (by show _ < 200; omega), ← small_at x0 (by show _ < 200; omega), Hx1.out, ← small_at (x1 + 1) (by show _ < 200; omega), ← small_at x1 (by show _ < 200; omega)]
    exact (((((hb.set_ 5 _).set_ 4 _).set_ 3 _).set_ 2 _).set_ 1 _).drew.drew
set_option maxRecDepth 100000 in
set_option maxHeartbeats 1000000 in
theorem fmt_6 {w : World} {b : Nat} (hb : Blk w b 135 #[.int .u8 0, .int .u8 0, .int .u8 0, .int .u8 0, .int .u8 0, .int .u8 0, .int .u8 0, .int .u8 0, .int .u8 0, .int .u8 0, .int .u8 0, .int .u8 0, .int .u8 0, .int .u8 0, .int .u8 0, .int .u8 0, .int .u8 0, .int .u8 0, .int .u8 0, .int .u8 0, .int .u8 0, .int .u8 0, .int .u8 0, .int .u8 0]) (u : Nat) (hu : u < 524288) :
    Calls Tryd.prog 83 #[.slice (some ⟨b, 1, none⟩) 6 23, .int .u64 u] w fun e w' => e = .returned (.tuple #[]) ∧ Fr (fun k => k = b) w w' ∧ Blk w' b 135 #[.int .u8 0, .int .u8 (smallAt (u / 10000 % 100 * 2)), .int .u8 (smallAt (u / 10000 % 100 * 2 + 1)), .int .u8 (smallAt (u % 10000 / 100 * 2)), .int .u8 (smallAt (u % 10000 / 100 * 2 + 1)), .int .u8 (smallAt (u % 100 * 2)), .int .u8 (smallAt (u % 100 * 2 + 1)), .int .u8 0, .int .u8 0, .int .u8 0, .int .u8 0, .int .u8 0, .int .u8 0, .int .u8 0, .int .u8 0, .int .u8 0, .int .u8 0, .int .u8 0, .int .u8 0, .int .u8 0, .int .u8 0, .int .u8 0, .int .u8 0, .int .u8 0] := by
  have c1 : w.cell? ⟨b, 1, none⟩ = some (.int .u8 0) := hb.cell 1
  have z1 := hb.frozen 1
  have c2 : w.cell? ⟨b, 2, none⟩ = some (.int .u8 0) := hb.cell 2
  have z2 := hb.frozen 2
  have c3 : w.cell? ⟨b, 3, none⟩ = some (.int .u8 0) := hb.cell 3
  have z3 := hb.frozen 3
  have c4 : w.cell? ⟨b, 4, none⟩ = some (.int .u8 0) := hb.cell 4
  have z4 := hb.frozen 4
  have c5 : w.cell? ⟨b, 5, none⟩ = some (.int .u8 0) := hb.cell 5
  have z5 := hb.frozen 5
  have c6 : w.cell? ⟨b, 6, none⟩ = some (.int .u8 0) := hb.cell 6
  have z6 := hb.frozen 6
  obtain ⟨x0, Hx0⟩ : ∃ x0 : Nat, Hid (u % 100 * 2 = x0) := ⟨_, rfl⟩
  have ex0 : (u : Int) % 100 * 2 = (x0 : Int) := by have := Hx0.out; omega
  have ax0 : x0 ≤ 198 := by have := Hx0.out; omega
  have bx0 : (x0 : Int) < 200 := by omega
  have dx0 : (x0 : Int) + 1 < 200 := by omega
  have fx0 := wrap_u32 x0 ax0
  have gx0 : (0 : Int) ≤ (x0 : Int) + 1 := by omega
  have hx0 : (0 : Int) ≤ (x0 : Int) := by omega
  obtain ⟨x1, Hx1⟩ : ∃ x1 : Nat, Hid (u % 10000 / 100 * 2 = x1) := ⟨_, rfl⟩
  have ex1 : (u : Int) % 10000 / 100 * 2 = (x1 : Int) := by have := Hx1.out; omega
  have ax1 : x1 ≤ 198 := by have := Hx1.out; omega
  have bx1 : (x1 : Int) < 200 := by omega
  have dx1 : (x1 : Int) + 1 < 200 := by omega
  have fx1 := wrap_u32 x1 ax1
  have gx1 : (0 : Int) ≤ (x1 : Int) + 1 := by omega
  have hx1 : (0 : Int) ≤ (x1 : Int) := by omega
  obtain ⟨x2, Hx2⟩ : ∃ x2 : Nat, Hid (u / 10000 % 100 * 2 = x2) := ⟨_, rfl⟩
  have ex2 : (u : Int) / 10000 % 100 * 2 = (x2 : Int) := by have := Hx2.out; omega
  have ax2 : x2 ≤ 198 := by have := Hx2.out; omega
  have bx2 : (x2 : Int) < 200 := by omega
  have dx2 : (x2 : Int) + 1 < 200 := by omega
  have fx2 := wrap_u32 x2 ax2
  have gx2 : (0 : Int) ≤ (x2 : Int) + 1 := by omega
  have hx2 : (0 : Int) ≤ (x2 : Int) := by omega
  have hu1 : (u : Int) < 524288 := by omega
  go_enter Tryd.func83, Tryd.ntmps83
  go_wp2_with fail
  go_loopw [1, 4] (fun v n wr => v = .int .u64 u ∧ n = .int .i64 6 ∧ w = wr) (fun _ _ _ => 0)
  case atStart => exact ⟨rfl, rfl, rfl⟩
  case round =>
    obtain ⟨rfl, rfl, rfl⟩ := hrel
    go_wp2_with fail
    go_region
    go_wp2_with fail
    go_region
    go_wp2_with fail
    go_region
    go_wp2_with fail
    refine bodyPost_end (v := .tuple #[]) (by simp [results, go_sem]) rfl ?_
    refine ⟨rfl, (((((((Fr.refl (fun k => k = b) w).setCell (p := ⟨b, 6, none⟩) (fun _ => rfl) _).setCell (p := ⟨b, 5, none⟩) (fun _ => rfl) _).setCell (p := ⟨b, 4, none⟩) (fun _ => rfl) _).setCell (p := ⟨b, 3, none⟩) (fun _ => rfl) _).setCell (p := ⟨b, 2, none⟩) (fun _ => rfl) _).setCell (p := ⟨b, 1, none⟩) (fun _ => rfl) _).drew.drew.drew, ?_⟩
    rw [Hx0.out, ← small_at (x0 + 1) (by show _ < 200; omega), ← small_at x0 (by show _ < 200; omega), Hx1.out, ← small_at (x1 + 1) (by show _ < 200; omega), ← small_at x1 (by show _ < 200; omega), Hx2.out, ← small_at (x2 + 1) (by show _ < 200; omega), ← small_at x2 (by show _ < 200; omega)]
    exact ((((((hb.set_ 6 _).set_ 5 _).set_ 4 _).set_ 3 _).set_ 2 _).set_ 1 _).drew.drew.drew
end Go.Proofs.YtkbcobbnjiekfaaDoor
