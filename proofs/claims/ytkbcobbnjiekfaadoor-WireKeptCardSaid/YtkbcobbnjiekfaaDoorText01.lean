/- cohortref01.Text of one step and the number 22. -/
import Derived.Test.YtkbcobbnjiekfaaDoorTextG
import Derived.Test.YtkbcobbnjiekfaaDoorSteps
namespace Go.Proofs.YtkbcobbnjiekfaaDoor
open Go Go.RowKit
theorem text01_same (tb : Nat → Int) (s : ByteArray) (n : Nat) : (((((⟨#[]⟩ : ByteArray) ++ s) ++ (⟨#[32]⟩ : ByteArray)) ++ itoaT tb n) ++ (⟨#[58, 32]⟩ : ByteArray)) ++ (⟨#[99, 111, 104, 111, 114, 116, 58, 32, 101, 114, 114, 111, 114, 32]⟩ : ByteArray) ++ itoaS 22 = textG tb s n 22 := by
  have e : (⟨#[]⟩ : ByteArray) ++ s = s := ByteArray.empty_append
  rw [e]
  unfold textG errText
  rw [ByteArray.append_assoc]
set_option maxRecDepth 100000 in
set_option maxHeartbeats 400000 in
theorem ref01_Text1 {w : World} {tb : Nat → Int} (hT : Tab w tb) {s : ByteArray} {n : Nat} (hsz : s.size ≤ 64) (hn : n < 524288) {A : Option Addr} {cap : Nat} (hr : StepRow w A [(s, (n : Int))]) :
    Calls Tryd.prog 34 #[.int .i64 22, .slice A 1 cap] w (Texted w (textG tb s n 22)) := by
  have hgt : 1 < w.heap.size := World.block_lt_of_cell? w _ (hT 0 (by omega))
  obtain ⟨b, o, rfl, c0, c1⟩ := hr 0 (s, (n : Int)) rfl
  simp only [Nat.zero_mul, Nat.add_zero] at c0 c1
  have h2 := itoaT_size tb hn
  have h3 := itoaS_size (i := 22) (by omega)
  have HT := Lib.hid hT
  have HC0 := Lib.hid c0
  have HC1 := Lib.hid c1
  have h22 := strconv_Itoa 22 (by omega)
  rw [← text01_same]
  obtain ⟨o1, ho1⟩ : ∃ o1, Hid (((((⟨#[]⟩ : ByteArray) ++ s) ++ (⟨#[32]⟩ : ByteArray)) ++ itoaT tb n) ++ (⟨#[58, 32]⟩ : ByteArray) = o1) := ⟨_, rfl⟩
  have hs1 : o1.size ≤ 100 := by
    rw [← ho1.out]
    simp only [ByteArray.size_append]
    have e1 : ((⟨#[32]⟩ : ByteArray)).size = 1 := rfl
    have e2 : ((⟨#[58, 32]⟩ : ByteArray)).size = 2 := rfl
    have e3 : (⟨#[]⟩ : ByteArray).size = 0 := rfl
    omega
  rw [ho1.out]
  have q0 : (9223372036854775807 < s.size) = False := by simp; omega
  have q1 : (9223372036854775807 < s.size + 1) = False := by simp; omega
  have q2 : (9223372036854775807 < s.size + 1 + (itoaT tb n).size) = False := by simp; omega
  have q3 : (9223372036854775807 < s.size + 1 + (itoaT tb n).size + 2) = False := by simp; omega
  have q4 : (9223372036854775807 < o1.size + 14) = False := by simp; omega
  have q5 : (9223372036854775807 < o1.size + 14 + (itoaS 22).size) = False := by simp; omega
  clear c0 c1 hr hT h2 h3 hs1
  go_enter Tryd.func34, Tryd.ntmps34
  go_wp2_with fail
  go_loopw [5, 6] (fun out i wr => (i = .int .i64 0 ∧ out = .string ⟨#[]⟩ ∧ w = wr) ∨ (i = .int .i64 1 ∧ out = .string o1 ∧ Fr (fun _ => False) w wr)) (fun _ i _ => 1 - (intOf i).toNat)
  case atStart => exact .inl ⟨rfl, rfl, rfl⟩
  case round =>
    rcases hrel with ⟨rfl, rfl, rfl⟩ | ⟨rfl, rfl, hf⟩
    · go_wp2_with fail
      have five : ∀ w', Fr (fun _ => False) w w' → w'.cell? ⟨b, o, none⟩ = some (.string s) ∧ w'.cell? ⟨b, o + 1, none⟩ = some (.int .i64 n) := fun w' h => ⟨h.cell_some HC0.out id, h.cell_some HC1.out id⟩
      have f0 : Fr (fun _ => False) w w.drew := (Fr.refl _ _).drew
      go_region_held3 (fun w' => w'.cell? ⟨b, o, none⟩ = some (.string s) ∧ w'.cell? ⟨b, o + 1, none⟩ = some (.int .i64 n)) (first | with_reducible exact five _ f1 | with_reducible exact five _ f0) (first | (go_at_call 63; refine (strconv_ItoaT (HT.out.fr f0) n hn).mono ?_; rintro e w1 ⟨rfl, hf1⟩; have f1 := f0.then_ hf1))
      all_goals go_wp2_with fail
      all_goals go_roundw
      case rel => exact .inr ⟨rfl, by rw [ho1.out], f1⟩
      case measure => simp [intOf]
    · go_wp2_with (go_at_call 63; refine (h22 _).mono ?_; rintro e w1 ⟨rfl, rfl⟩)
      go_ret
      exact ⟨rfl, hf⟩
end Go.Proofs.YtkbcobbnjiekfaaDoor
