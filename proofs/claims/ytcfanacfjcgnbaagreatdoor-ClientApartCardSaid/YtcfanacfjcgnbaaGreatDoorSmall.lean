/- The small functions: seals.Member, Client, Group, cohortref04.Member, Client, Group, fault.Of, fault.Wrap: each returns just this and leaves the world alone. -/
import Derived.Test.YtcfanacfjcgnbaaGreatDoorProg
import Derived.Test.YtcfanacfjcgnbaaGreatDoorBase
namespace Go.Proofs.YtcfanacfjcgnbaaGreatDoor
open Go Go.RowKit
theorem ret_int {k : IntKind} {a b : Int} (h : a = b) : Ending.returned (.int k a) = .returned (.int k b) := by rw [h]
theorem ret_int2 {k l : IntKind} {a b c d : Int} (h : a = b) (h' : c = d) : Ending.returned (.tuple #[.int k a, .int l c]) = .returned (.tuple #[.int k b, .int l d]) := by rw [h, h']
def memberOf (g i : Int) : Int := if g < 0 ∨ 8 ≤ g ∨ i < 0 ∨ 10 ≤ i then -1 else 100 + g * 16 + i
def clientOf (i : Int) : Int := if i < 0 ∨ 16 ≤ i then -1 else i
def groupOf (w : Int) : Int := if w < 100 ∨ 8 ≤ (w - 100) / 16 ∨ 10 ≤ (w - 100) % 16 then -1 else (w - 100) / 16
def placeOf (w : Int) : Int := if w < 100 ∨ 8 ≤ (w - 100) / 16 ∨ 10 ≤ (w - 100) % 16 then -1 else (w - 100) % 16
theorem seals_Member (g i : Int) (w : World) : Calls Tryz.prog 64 #[.int .i64 g, .int .i64 i] w fun e w' => e = .returned (.int .i64 (memberOf g i)) ∧ w = w' := by
  go_enter Tryz.func64, Tryz.ntmps64
  go_wp2
  all_goals go_ret
  all_goals exact ⟨ret_int (by unfold memberOf; first | rw [if_pos (by omega)] | (rw [if_neg (by omega)]; try omega)), rfl⟩
theorem ref04_Member (g i : Int) (w : World) : Calls Tryz.prog 27 #[.int .i64 g, .int .i64 i] w fun e w' => e = .returned (.int .i64 (memberOf g i)) ∧ w = w' := by
  go_enter Tryz.func27, Tryz.ntmps27
  go_wp2
  all_goals go_ret
  all_goals exact ⟨ret_int (by unfold memberOf; first | rw [if_pos (by omega)] | (rw [if_neg (by omega)]; try omega)), rfl⟩
theorem seals_Client (i : Int) (w : World) : Calls Tryz.prog 41 #[.int .i64 i] w fun e w' => e = .returned (.int .i64 (clientOf i)) ∧ w = w' := by
  go_enter Tryz.func41, Tryz.ntmps41
  go_wp2
  all_goals go_ret
  all_goals exact ⟨ret_int (by unfold clientOf; first | rw [if_pos (by omega)] | (rw [if_neg (by omega)])), rfl⟩
theorem ref04_Client (i : Int) (w : World) : Calls Tryz.prog 46 #[.int .i64 i] w fun e w' => e = .returned (.int .i64 (clientOf i)) ∧ w = w' := by
  go_enter Tryz.func46, Tryz.ntmps46
  go_wp2
  all_goals go_ret
  all_goals exact ⟨ret_int (by unfold clientOf; first | rw [if_pos (by omega)] | (rw [if_neg (by omega)])), rfl⟩
theorem seals_Group (i : Int) (hi : i ≤ 9223372036854775807) (w : World) : Calls Tryz.prog 43 #[.int .i64 i] w fun e w' => e = .returned (.tuple #[.int .i64 (groupOf i), .int .i64 (placeOf i)]) ∧ w = w' := by
  by_cases h : i < 100
  · go_enter Tryz.func43, Tryz.ntmps43
    go_wp2
    go_ret2
    exact ⟨ret_int2 (by unfold groupOf; rw [if_pos (by omega)]) (by unfold placeOf; rw [if_pos (by omega)]), rfl⟩
  · go_enter Tryz.func43, Tryz.ntmps43
    go_wp2
    all_goals go_ret2
    all_goals exact ⟨ret_int2 (by unfold groupOf; first | rw [if_pos (by omega)] | rw [if_neg (by omega)]) (by unfold placeOf; first | rw [if_pos (by omega)] | rw [if_neg (by omega)]), rfl⟩
/-- An error that came through these places, the outermost first, with this number. -/
def errV : List (ByteArray × Int) → Int → Value
  | [], c => .iface 63 (.int .i64 c)
  | (s, n) :: r, c => .iface 146 (.agg #[.string s, .int .i64 n, errV r c])
theorem errV_iface (l : List (ByteArray × Int)) (c : Int) : ∃ t v, errV l c = .iface t v := by
  cases l with
  | nil => exact ⟨_, _, rfl⟩
  | cons x r => exact ⟨_, _, rfl⟩
/-- An error, or none. -/
def errO : Option (List (ByteArray × Int) × Int) → Value
  | none => .nilIface
  | some x => errV x.1 x.2
theorem errO_some (x : List (ByteArray × Int) × Int) : ∃ t v, errO (some x) = .iface t v := errV_iface x.1 x.2
theorem fault_Of_zero (w : World) : Calls Tryz.prog 44 #[.int .i64 0] w fun e w' => e = .returned .nilIface ∧ w = w' := by
  go_enter Tryz.func44, Tryz.ntmps44
  go_wp2
  go_ret
  exact ⟨rfl, rfl⟩
theorem fault_Of (c : Int) (h : (c == 0) = false) (w : World) : Calls Tryz.prog 44 #[.int .i64 c] w fun e w' => e = .returned (errV [] c) ∧ w = w' := by
  go_enter Tryz.func44, Tryz.ntmps44
  go_wp2
  go_ret
  exact ⟨rfl, rfl⟩
theorem fault_Wrap_nil (s : ByteArray) (n : Int) (w : World) : Calls Tryz.prog 42 #[.nilIface, .string s, .int .i64 n] w fun e w' => e = .returned .nilIface ∧ w = w' := by
  go_enter Tryz.func42, Tryz.ntmps42
  go_wp2
  go_ret
  exact ⟨rfl, rfl⟩
theorem fault_Wrap (l : List (ByteArray × Int)) (c : Int) (s : ByteArray) (n : Int) (w : World) : Calls Tryz.prog 42 #[errV l c, .string s, .int .i64 n] w fun e w' => e = .returned (errV ((s, n) :: l) c) ∧ w = w' := by
  simp only [errV]
  obtain ⟨t, v, h⟩ := errV_iface l c
  rw [h]
  clear h
  go_enter Tryz.func42, Tryz.ntmps42
  go_wp2
  go_ret
  exact ⟨rfl, rfl⟩
def signBad (who d : Int) : Bool := decide ((clientOf who < 0 ∧ groupOf who < 0) ∨ d < 0)
def signErr (who d : Int) (L : List (Int × Int)) : Option (List (ByteArray × Int) × Int) :=
  if signBad who d = true then some ([((⟨#[115, 101, 97, 108, 115]⟩ : ByteArray), who)], 1) else if (who, d) ∈ L then none else if ((L.length : Int) == 131072) = true then some ([((⟨#[115, 101, 97, 108, 115]⟩ : ByteArray), who)], 2) else none
def signL (who d : Int) (L : List (Int × Int)) : List (Int × Int) :=
  if signBad who d = true then L else if (who, d) ∈ L then L else if ((L.length : Int) == 131072) = true then L else L ++ [(who, d)]
section
variable {who d : Int} {L : List (Int × Int)}
theorem sign_bad (h : (clientOf who < 0 ∧ groupOf who < 0) ∨ d < 0) : signErr who d L = some ([((⟨#[115, 101, 97, 108, 115]⟩ : ByteArray), who)], 1) ∧ signL who d L = L := by
  simp [signErr, signL, signBad, h]
theorem sign_in (h : ¬ ((clientOf who < 0 ∧ groupOf who < 0) ∨ d < 0)) (hm : (who, d) ∈ L) : signErr who d L = none ∧ signL who d L = L := by
  simp [signErr, signL, signBad, h, hm]
theorem sign_full (h : ¬ ((clientOf who < 0 ∧ groupOf who < 0) ∨ d < 0)) (hm : (who, d) ∉ L) (hl : ((L.length : Int) == 131072) = true) : signErr who d L = some ([((⟨#[115, 101, 97, 108, 115]⟩ : ByteArray), who)], 2) ∧ signL who d L = L := by
  simp only [signErr, signL, signBad, h, hm, hl]
  simp
theorem sign_new (h : ¬ ((clientOf who < 0 ∧ groupOf who < 0) ∨ d < 0)) (hm : (who, d) ∉ L) (hl : ((L.length : Int) == 131072) = false) : signErr who d L = none ∧ signL who d L = L ++ [(who, d)] := by
  simp only [signErr, signL, signBad, h, hm, hl]
  simp
end
end Go.Proofs.YtcfanacfjcgnbaaGreatDoor
