/- fault.Text of an error of one step, whatever the table of powers holds. -/
import Derived.Test.YtkbcobbnjiekfaaDoorItoaT
import Derived.Deep.RegionHeld3
namespace Go.Proofs.YtkbcobbnjiekfaaDoor
open Go Go.RowKit
def textG (tb : Nat → Int) (s : ByteArray) (n c : Nat) : ByteArray := (((s ++ (⟨#[32]⟩ : ByteArray)) ++ itoaT tb n) ++ (⟨#[58, 32]⟩ : ByteArray)) ++ errText [] c
set_option maxRecDepth 100000 in
set_option maxHeartbeats 400000 in
theorem wrapped_ErrorG {w : World} {tb : Nat → Int} (hT : Tab w tb) (s : ByteArray) (n c : Nat) (hsz : s.size ≤ 64) (hn : n < 524288) (hc : c < 100) :
    Calls Tryd.prog 110 #[.agg #[.string s, .int .i64 n, errV [] c]] w (Texted w (textG tb s n c)) := by
  have hgt : 1 < w.heap.size := World.block_lt_of_cell? w _ (hT 0 (by omega))
  have h1 := itoaS_size hc
  have h2 := itoaT_size tb hn
  have h3 : (errText [] c).size ≤ 16 := by
    show (((⟨#[99, 111, 104, 111, 114, 116, 58, 32, 101, 114, 114, 111, 114, 32]⟩ : ByteArray)) ++ itoaS c).size ≤ 16
    rw [ByteArray.size_append]
    have : ((⟨#[99, 111, 104, 111, 114, 116, 58, 32, 101, 114, 114, 111, 114, 32]⟩ : ByteArray)).size = 14 := rfl
    omega
  have hm := method_Errno c
  have hb0 := Blk.new w 97 #[.string s, .int .i64 n, errV [] c]
  have hf0 : Fr (fun _ => False) w (w.alloc (Obj.cells #[.string s, .int .i64 n, errV [] c] 97)) := (Fr.refl _ _).alloc _
  have HT := Lib.hid (hT.fr hf0)
  clear hT
  simp only [errV] at hb0 hf0 HT ⊢
  go_enter Tryd.func110, Tryd.ntmps110
  go_wp2_with fail
  generalize hW : w.alloc (Obj.cells #[.string s, .int .i64 n, .iface 36 (.int .i64 c)] 97) = w0 at hb0 hf0 HT ⊢
  clear hW
  have five : ∀ w', Fr (fun _ => False) w0 w' → w'.cell? ⟨w.heap.size, 0, none⟩ = some (.string s) ∧ w'.cell? ⟨w.heap.size, 1, none⟩ = some (.int .i64 n) ∧ w'.cell? ⟨w.heap.size, 2, none⟩ = some (.iface 36 (.int .i64 c)) := fun w' h => ⟨(hb0.fr h id).cell 0, (hb0.fr h id).cell 1, (hb0.fr h id).cell 2⟩
  have f0 : Fr (fun _ => False) w0 w0.drew := (Fr.refl _ _).drew
  have q1 : (9223372036854775807 < s.size + 1) = False := by simp; omega
  have q2 : (9223372036854775807 < s.size + 1 + (itoaT tb n).size) = False := by simp; omega
  have q3 : (9223372036854775807 < s.size + 1 + (itoaT tb n).size + 2) = False := by simp; omega
  have q4 : (9223372036854775807 < s.size + 1 + (itoaT tb n).size + 2 + (errText [] c).size) = False := by simp; omega
  clear h1 h2 h3
  go_region_held3 (fun w' => w'.cell? ⟨w.heap.size, 0, none⟩ = some (.string s) ∧ w'.cell? ⟨w.heap.size, 1, none⟩ = some (.int .i64 n) ∧ w'.cell? ⟨w.heap.size, 2, none⟩ = some (.iface 36 (.int .i64 c))) (first | with_reducible exact five _ f1 | with_reducible exact five _ f0) (first | (go_at_call 63; refine (strconv_ItoaT (HT.out.fr f0) n hn).mono ?_; rintro e w1 ⟨rfl, hf1⟩; have f1 := f0.then_ hf1) | (go_at_call 109; refine (api_Error c hc _).mono ?_; rintro e w2 ⟨rfl, rfl⟩))
  all_goals go_wp2
  all_goals go_ret
  all_goals exact ⟨rfl, hf0.then_ f1⟩
theorem fault_TextG {w : World} {tb : Nat → Int} (hT : Tab w tb) (s : ByteArray) (n c : Nat) (hsz : s.size ≤ 64) (hn : n < 524288) (hc : c < 100) :
    Calls Tryd.prog 24 #[errV [(s, (n : Int))] c] w (Texted w (textG tb s n c)) := by
  have hm := method_wrapped #[.string s, .int .i64 n, errV [] c]
  have HW := Lib.hid (wrapped_ErrorG hT s n c hsz hn hc)
  clear hT
  simp only [errV] at hm HW ⊢
  go_enter Tryd.func24, Tryd.ntmps24
  go_wp2_with (go_at_call 110; refine HW.out.mono ?_; rintro e w1 ⟨rfl, hf1⟩)
  go_ret
  exact ⟨rfl, hf1⟩
theorem fault_Text0 (w : World) : Calls Tryd.prog 24 #[.nilIface] w (Texted w ⟨#[]⟩) := by
  go_enter Tryd.func24, Tryd.ntmps24
  go_wp2
  go_ret
  exact ⟨rfl, Fr.refl _ _⟩
end Go.Proofs.YtkbcobbnjiekfaaDoor
