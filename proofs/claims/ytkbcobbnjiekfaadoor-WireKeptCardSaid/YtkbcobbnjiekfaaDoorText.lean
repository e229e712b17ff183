/- fault.Text, where all numbers lie in 0 .. 99. -/
import Derived.Test.YtkbcobbnjiekfaaDoorSmall
import Derived.Lib.Hide
import Derived.Shelf.Strconv.Itoa1
namespace Go.Proofs.YtkbcobbnjiekfaaDoor
open Go Go.RowKit
def smallRen : Go.Shelf.Ren := ⟨fun | 283 => 81 | n => n, fun | 3 => 3 | 9 => 9 | 4 => 4 | n => n, fun | n => n⟩
theorem smallLays : Go.Proofs.Lays.n283 Tryd.prog smallRen := {
  mixed := by kernel_rfl
  f283 := Tryd.func81.trans (congrArg some (by kernel_rfl))
  t3 := Tryd.underlying3
  a3 := Tryd.isAgg3
  z3 := Tryd.sizeOf3
  v3 := Tryd.zeroValue3
  t4 := Tryd.underlying4
  a4 := Tryd.isAgg4
  z4 := Tryd.sizeOf4
  v4 := Tryd.zeroValue4
  t9 := Tryd.underlying9
  a9 := Tryd.isAgg9
  z9 := Tryd.sizeOf9
  v9 := Tryd.zeroValue9 }
def itoaS (i : Nat) : ByteArray := ⟨(Lib.decDigits i).toArray⟩
theorem strconv_small (i : Nat) (hi : i < 100) (w : World) : Calls Tryd.prog 81 #[.int .i64 i] w fun e w' => e = .returned (.string (itoaS i)) ∧ w = w' :=
  (Any.internal_strconv_small smallLays i hi w).mono fun _ _ ⟨h1, h2⟩ => ⟨h1, h2.symm⟩
theorem strconv_FormatInt (i : Nat) (hi : i < 100) (w : World) : Calls Tryd.prog 80 #[.int .i64 i, .int .i64 10] w fun e w' => e = .returned (.string (itoaS i)) ∧ w = w' := by
  go_enter Tryd.func80, Tryd.ntmps80
  go_wp2_with (go_at_call 81; refine (strconv_small i hi _).mono ?_; rintro e w' ⟨rfl, rfl⟩)
  go_ret
  exact ⟨rfl, rfl⟩
theorem strconv_Itoa1 (i : Nat) (hi : i < 100) (w : World) : Calls Tryd.prog 76 #[.int .i64 i] w fun e w' => e = .returned (.string (itoaS i)) ∧ w = w' := by
  go_enter Tryd.func76, Tryd.ntmps76
  go_wp2_with (go_at_call 80; refine (strconv_FormatInt i hi _).mono ?_; rintro e w' ⟨rfl, rfl⟩)
  go_ret
  exact ⟨rfl, rfl⟩
theorem strconv_Itoa (i : Nat) (hi : i < 100) (w : World) : Calls Tryd.prog 63 #[.int .i64 i] w fun e w' => e = .returned (.string (itoaS i)) ∧ w = w' := by
  go_enter Tryd.func63, Tryd.ntmps63
  go_wp2_with (go_at_call 76; refine (strconv_Itoa1 i hi _).mono ?_; rintro e w' ⟨rfl, rfl⟩)
  go_ret
  exact ⟨rfl, rfl⟩

def errText : List (ByteArray × Nat) → Nat → ByteArray
  | [], c => ((⟨#[99, 111, 104, 111, 114, 116, 58, 32, 101, 114, 114, 111, 114, 32]⟩ : ByteArray)) ++ itoaS c
  | (s, n) :: r, c => (((s ++ (⟨#[32]⟩ : ByteArray)) ++ itoaS n) ++ (⟨#[58, 32]⟩ : ByteArray)) ++ errText r c
theorem itoaS_size {i : Nat} (h : i < 100) : (itoaS i).size ≤ 2 := by
  unfold itoaS
  by_cases h1 : i < 10
  · rw [Lib.decDigits_one h1]
    exact Nat.le_of_lt (Nat.lt_of_lt_of_eq (Nat.lt_succ_self 1) rfl)
  · rw [Lib.decDigits_two h1 h]
    exact Nat.le_refl 2
theorem api_Error (c : Nat) (hc : c < 100) (w : World) : Calls Tryd.prog 109 #[.int .i64 c] w fun e w' => e = .returned (.string (errText [] c)) ∧ w = w' := by
  have hs := itoaS_size hc
  go_enter Tryd.func109, Tryd.ntmps109
  go_wp2_with (go_at_call 63; refine (strconv_Itoa c hc _).mono ?_; rintro e w' ⟨rfl, rfl⟩)
  go_ret
  exact ⟨rfl, rfl⟩
def stepsV (l : List (ByteArray × Nat)) : List (ByteArray × Int) := l.map fun x => (x.1, (x.2 : Int))
def Texted (w : World) (s : ByteArray) (e : Ending) (w' : World) : Prop := e = .returned (.string s) ∧ Fr (fun _ => False) w w'
theorem method_Errno (c : Int) (k : Nat) (w : World) : (method (k + 1) 36 (.int .i64 c) "Error").run Tryd.prog w = .ok (109, .int .i64 c) w := by kernel_rfl
theorem method_wrapped (cs : Array Value) (k : Nat) (w : World) : (method (k + 1) 97 (.agg cs) "Error").run Tryd.prog w = .ok (110, .agg cs) w := by kernel_rfl
theorem wrapped_Error1 (s : ByteArray) (n c : Nat) (hsz : s.size ≤ 64) (hn : n < 100) (hc : c < 100) (w : World) :
    Calls Tryd.prog 110 #[.agg #[.string s, .int .i64 n, errV [] c]] w (Texted w (errText [(s, n)] c)) := by
  have h1 := itoaS_size hc
  have h2 := itoaS_size hn
  have h3 : (errText [] c).size ≤ 16 := by
    show (((⟨#[99, 111, 104, 111, 114, 116, 58, 32, 101, 114, 114, 111, 114, 32]⟩ : ByteArray)) ++ itoaS c).size ≤ 16
    rw [ByteArray.size_append]
    have : ((⟨#[99, 111, 104, 111, 114, 116, 58, 32, 101, 114, 114, 111, 114, 32]⟩ : ByteArray)).size = 14 := rfl
    omega
  have hm := method_Errno c
  simp only [errV]
  go_enter Tryd.func110, Tryd.ntmps110
  go_wp2_with fail
  go_quiet ((first | (go_at_call 63; exact quiet_left (strconv_Itoa n hn _)) | (go_at_call 109; exact quiet_left (api_Error c hc _))))
  go_wp2
  go_ret
  exact ⟨rfl, ((Fr.refl _ _).alloc _).drewN _⟩
theorem fault_Text1 (s : ByteArray) (n c : Nat) (hsz : s.size ≤ 64) (hn : n < 100) (hc : c < 100) (w : World) :
    Calls Tryd.prog 24 #[errV [(s, (n : Int))] c] w (Texted w (errText [(s, n)] c)) := by
  have hm := method_wrapped #[.string s, .int .i64 n, errV [] c]
  simp only [errV] at hm ⊢
  go_enter Tryd.func24, Tryd.ntmps24
  go_wp2_with (go_at_call 110; refine (wrapped_Error1 s n c hsz hn hc _).mono ?_; rintro e w1 ⟨rfl, hf1⟩)
  go_ret
  exact ⟨rfl, hf1⟩
end Go.Proofs.YtkbcobbnjiekfaaDoor
