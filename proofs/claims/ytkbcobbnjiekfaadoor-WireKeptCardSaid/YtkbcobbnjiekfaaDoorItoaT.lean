/- strconv.Itoa of a number below 524288, whatever the table of powers holds: one text. -/
import Derived.Test.YtkbcobbnjiekfaaDoorItoa
namespace Go.Proofs.YtkbcobbnjiekfaaDoor
open Go Go.RowKit
def fmtL (nd u : Nat) : List Int :=
  match nd with
  | 2 => [smallAt (u % 100 * 2), smallAt (u % 100 * 2 + 1)]
  | 3 => [(48 + (u : Int) / 100) % 256, smallAt (u % 100 * 2), smallAt (u % 100 * 2 + 1)]
  | 4 => [smallAt (u % 10000 / 100 * 2), smallAt (u % 10000 / 100 * 2 + 1), smallAt (u % 100 * 2), smallAt (u % 100 * 2 + 1)]
  | 5 => [48 + (u : Int) / 10000, smallAt (u % 10000 / 100 * 2), smallAt (u % 10000 / 100 * 2 + 1), smallAt (u % 100 * 2), smallAt (u % 100 * 2 + 1)]
  | 6 => [smallAt (u / 10000 % 100 * 2), smallAt (u / 10000 % 100 * 2 + 1), smallAt (u % 10000 / 100 * 2), smallAt (u % 10000 / 100 * 2 + 1), smallAt (u % 100 * 2), smallAt (u % 100 * 2 + 1)]
  | _ => []
def zeroA : Array Value := #[.int .u8 0, .int .u8 0, .int .u8 0, .int .u8 0, .int .u8 0, .int .u8 0, .int .u8 0, .int .u8 0, .int .u8 0, .int .u8 0, .int .u8 0, .int .u8 0, .int .u8 0, .int .u8 0, .int .u8 0, .int .u8 0, .int .u8 0, .int .u8 0, .int .u8 0, .int .u8 0, .int .u8 0, .int .u8 0, .int .u8 0, .int .u8 0]
def Fmt (w : World) (b nd u : Nat) (e : Ending) (w' : World) : Prop := e = .returned (.tuple #[]) ∧ Fr (fun k => k = b) w w' ∧ ByteRow w' (fun k => k = b) (some ⟨b, 1, none⟩) (fmtL nd u) ∧ (fmtL nd u).length = nd
theorem fmt_any {w : World} {b : Nat} (hb : Blk w b 135 zeroA) (nd : Nat) (h2 : 2 ≤ nd) (h6 : nd ≤ 6) (u : Nat) (hu : u < 524288) :
    Calls Tryd.prog 83 #[.slice (some ⟨b, 1, none⟩) nd 23, .int .u64 u] w (Fmt w b nd u) := by
  obtain rfl | rfl | rfl | rfl | rfl : nd = 2 ∨ nd = 3 ∨ nd = 4 ∨ nd = 5 ∨ nd = 6 := by omega
  · refine (fmt_2 hb u hu).mono fun e w' ⟨h1, h2, h3⟩ => ⟨h1, h2, fun k x hx => ?_, rfl⟩
    rcases k with _ | _ | k
    · obtain rfl := Option.some.inj hx; exact ⟨b, 1, rfl, rfl, h3.cell 1⟩
    · obtain rfl := Option.some.inj hx; exact ⟨b, 1, rfl, rfl, h3.cell 2⟩
    · simp [fmtL] at hx
  · refine (fmt_3 hb u hu).mono fun e w' ⟨h1, h2, h3⟩ => ⟨h1, h2, fun k x hx => ?_, rfl⟩
    rcases k with _ | _ | _ | k
    · obtain rfl := Option.some.inj hx; exact ⟨b, 1, rfl, rfl, h3.cell 1⟩
    · obtain rfl := Option.some.inj hx; exact ⟨b, 1, rfl, rfl, h3.cell 2⟩
    · obtain rfl := Option.some.inj hx; exact ⟨b, 1, rfl, rfl, h3.cell 3⟩
    · simp [fmtL] at hx
  · refine (fmt_4 hb u hu).mono fun e w' ⟨h1, h2, h3⟩ => ⟨h1, h2, fun k x hx => ?_, rfl⟩
    rcases k with _ | _ | _ | _ | k
    · obtain rfl := Option.some.inj hx; exact ⟨b, 1, rfl, rfl, h3.cell 1⟩
    · obtain rfl := Option.some.inj hx; exact ⟨b, 1, rfl, rfl, h3.cell 2⟩
    · obtain rfl := Option.some.inj hx; exact ⟨b, 1, rfl, rfl, h3.cell 3⟩
    · obtain rfl := Option.some.inj hx; exact ⟨b, 1, rfl, rfl, h3.cell 4⟩
    · simp [fmtL] at hx
  · refine (fmt_5 hb u hu).mono fun e w' ⟨h1, h2, h3⟩ => ⟨h1, h2, fun k x hx => ?_, rfl⟩
    rcases k with _ | _ | _ | _ | _ | k
    · obtain rfl := Option.some.inj hx; exact ⟨b, 1, rfl, rfl, h3.cell 1⟩
    · obtain rfl := Option.some.inj hx; exact ⟨b, 1, rfl, rfl, h3.cell 2⟩
    · obtain rfl := Option.some.inj hx; exact ⟨b, 1, rfl, rfl, h3.cell 3⟩
    · obtain rfl := Option.some.inj hx; exact ⟨b, 1, rfl, rfl, h3.cell 4⟩
    · obtain rfl := Option.some.inj hx; exact ⟨b, 1, rfl, rfl, h3.cell 5⟩
    · simp [fmtL] at hx
  · refine (fmt_6 hb u hu).mono fun e w' ⟨h1, h2, h3⟩ => ⟨h1, h2, fun k x hx => ?_, rfl⟩
    rcases k with _ | _ | _ | _ | _ | _ | k
    · obtain rfl := Option.some.inj hx; exact ⟨b, 1, rfl, rfl, h3.cell 1⟩
    · obtain rfl := Option.some.inj hx; exact ⟨b, 1, rfl, rfl, h3.cell 2⟩
    · obtain rfl := Option.some.inj hx; exact ⟨b, 1, rfl, rfl, h3.cell 3⟩
    · obtain rfl := Option.some.inj hx; exact ⟨b, 1, rfl, rfl, h3.cell 4⟩
    · obtain rfl := Option.some.inj hx; exact ⟨b, 1, rfl, rfl, h3.cell 5⟩
    · obtain rfl := Option.some.inj hx; exact ⟨b, 1, rfl, rfl, h3.cell 6⟩
    · simp [fmtL] at hx
def itoaT (tb : Nat → Int) (n : Nat) : ByteArray := if n < 100 then itoaS n else strOfNums (fmtL (ndO tb n) n)
theorem ndO_bounds {n : Nat} (tb : Nat → Int) (h0 : 100 ≤ n) (hn : n < 524288) : 2 ≤ ndO tb n ∧ ndO tb n ≤ 6 := by
  obtain ⟨h1, h2⟩ := nd0_bounds h0 hn
  unfold ndO
  split <;> omega
theorem fmtL_length {nd : Nat} (u : Nat) (h2 : 2 ≤ nd) (h6 : nd ≤ 6) : (fmtL nd u).length = nd := by
  obtain rfl | rfl | rfl | rfl | rfl : nd = 2 ∨ nd = 3 ∨ nd = 4 ∨ nd = 5 ∨ nd = 6 := by omega
  all_goals rfl
theorem itoaT_size (tb : Nat → Int) {n : Nat} (hn : n < 524288) : (itoaT tb n).size ≤ 6 := by
  unfold itoaT
  split
  · rename_i h
    have := itoaS_size h
    omega
  · rename_i h
    obtain ⟨h1, h2⟩ := ndO_bounds tb (by omega) hn
    have := fmtL_length n h1 h2
    rw [strOfNums_size]
    omega
theorem slice24 (w : World) (g nd : Nat) (h6 : nd ≤ 6) : (Instr.sliceAt 135 (.pointer (some ⟨g, 0, none⟩)) (some (.int .i64 1)) (some (.int .i64 (1 + (nd : Int)))) none).run Tryd.prog w = .ok (.slice (some ⟨g, 1, none⟩) nd 23) w := by
  have ha : (Tryd.prog).arrayLen 135 = 24 := by kernel_rfl
  have he : (Tryd.prog).elem 135 = 5 := by kernel_rfl
  rw [run_sliceAt_array_lh w 135 ⟨g, 0, none⟩ (by rw [ha, he]; exact Tryd.underlying135) .i64 .i64 1 (1 + (nd : Int)) (by omega) (by omega) (by rw [ha]; omega), ha, he, Tryd.sizeOf5]
  have e : ((1 : Int) + (nd : Int)).toNat = nd + 1 := by omega
  simp only [Result.andThen_ok, slicedAt, e]
  rfl
set_option maxRecDepth 100000 in
theorem strconv_FormatIntT {w : World} {tb : Nat → Int} (hT : Tab w tb) (n : Nat) (hn : n < 524288) : Calls Tryd.prog 80 #[.int .i64 n, .int .i64 10] w (Texted w (itoaT tb n)) := by
  by_cases h0 : n < 100
  · rw [itoaT, if_pos h0]
    exact (strconv_FormatInt n h0 w).mono fun e w' ⟨he, hw⟩ => ⟨he, hw ▸ Fr.refl _ _⟩
  · rw [itoaT, if_neg h0]
    have hgt : 1 < w.heap.size := World.block_lt_of_cell? w _ (hT 0 (by omega))
    obtain ⟨h2, h6⟩ := ndO_bounds tb (Nat.not_lt.1 h0) hn
    have hf0 : Fr (fun _ => False) w (w.alloc (Obj.cells zeroA 135)) := (Fr.refl _ _).alloc _
    have HN := strconv_numDigits (hT.fr hf0) n (Nat.not_lt.1 h0) hn
    have hb0 := Blk.new w 135 zeroA
    have h100 : ¬ (n : Int) < 100 := by omega
    generalize ndO tb n = nd at h2 h6 HN
    have hF := fmt_any hb0 nd h2 h6 n hn
    have HN := Lib.hid HN
    have HF := Lib.hid hF
    have hsl := fun w' => slice24 w' w.heap.size nd h6
    clear hF hT hb0 h0
    unfold zeroA at HN HF hf0
    go_enter Tryd.func80, Tryd.ntmps80
    go_wp2_with (first | (go_at_call 82; refine HN.out.mono ?_; rintro e w' ⟨rfl, rfl⟩) | (go_at_call 83; refine HF.out.mono ?_; rintro e w2 ⟨rfl, hf2, hr2, hl2⟩; have hcv := conv_bytes (cap := 23) hr2 hl2.symm))
    go_ret
    exact ⟨rfl, hf0.trans hf2 (fun k hk h => by cases h; exact absurd hk (Nat.lt_irrefl _))⟩
theorem strconv_Itoa1T {w : World} {tb : Nat → Int} (hT : Tab w tb) (n : Nat) (hn : n < 524288) : Calls Tryd.prog 76 #[.int .i64 n] w (Texted w (itoaT tb n)) := by
  have HF := Lib.hid (strconv_FormatIntT hT n hn)
  clear hT
  go_enter Tryd.func76, Tryd.ntmps76
  go_wp2_with (go_at_call 80; refine HF.out.mono ?_; rintro e w' ⟨rfl, hf⟩)
  go_ret
  exact ⟨rfl, hf⟩
theorem strconv_ItoaT {w : World} {tb : Nat → Int} (hT : Tab w tb) (n : Nat) (hn : n < 524288) : Calls Tryd.prog 63 #[.int .i64 n] w (Texted w (itoaT tb n)) := by
  have HF := Lib.hid (strconv_Itoa1T hT n hn)
  clear hT
  go_enter Tryd.func63, Tryd.ntmps63
  go_wp2_with (go_at_call 76; refine HF.out.mono ?_; rintro e w' ⟨rfl, hf⟩)
  go_ret
  exact ⟨rfl, hf⟩
end Go.Proofs.YtkbcobbnjiekfaaDoor
