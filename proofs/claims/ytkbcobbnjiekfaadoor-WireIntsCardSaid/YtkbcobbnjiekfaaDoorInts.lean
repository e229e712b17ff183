/- cohortlaw02.WireInts: the walk. -/
import Derived.Test.YtkbcobbnjiekfaaDoorHead02
import Derived.Test.YtkbcobbnjiekfaaDoorWireL
namespace Go.Proofs.YtkbcobbnjiekfaaDoor
open Go Go.RowKit
theorem numX_num8 {n : Int} (h0 : -9223372036854775808 ≤ n) (h1 : n ≤ 9223372036854775807) : numX (num8 n) 0 = n := by
  rw [numX, List.drop_zero, List.take_of_length_le (by rw [num8_length]; omega)]
  exact spell_num8 h0 h1
theorem numC_num8 (n : Int) : numC (num8 n) 0 = 0 := by rw [numC, num8_length]; rfl
set_option maxRecDepth 100000 in
theorem wireInts_walk {w : World} (hG0 : Laid w) (n m : Int) (h0 : -9223372036854775808 ≤ n) (h1 : n ≤ 9223372036854775807) (m0 : -2147483648 ≤ m) (m1 : m ≤ 2147483647) :
    Calls Tryd.prog 3 #[.int .i64 n, .int .i32 m] w (Fine w true) := by
  have hGb : 0 < w.heap.size := World.block_lt_of_cell? w _ hG0
  go_enter Tryd.func3, Tryd.ntmps3
  go_wp2_with fail
  refine (law02_head hG0).mono ?_
  rintro e w1 ⟨rfl, hf1⟩
  go_wp2_with fail
  have hf2 : Fr (fun _ => False) w (w1.alloc (Obj.cells #[.slice none 0 0, .nilIface] 28)) := hf1.alloc _
  have hW : WriterAt (w1.alloc (Obj.cells #[.slice none 0 0, .nilIface] 28)) w1.heap.size w1.heap.size (.slice none 0 0) [] none := ⟨Blk.new _ _ _, Own8.nil _ _⟩
  refine (writer_Num hW (by simp) (by simp) n).mono ?_
  rintro e w3 ⟨v3, rfl, hW3, hf3, hk3⟩
  have hW3 : WriterAt w3 w1.heap.size w1.heap.size v3 (num8 n) none := hW3
  have hf3' : Fr (fun _ => False) w w3 := hf2.trans hf3 (fun k hk h => by rcases h with h | h; (· have := hf1.size; omega); (· cases h))
  clear hW hf2 hf3 hk3
  go_wp2_with fail
  refine (writer_Bytes hW3 (by rw [num8_length]; decide)).mono ?_
  rintro e w4 ⟨v4, rfl, hv4, hf4⟩
  have hv4 : Own8 w4 w3.heap.size v4 (num8 n) := hv4
  obtain ⟨A4, cap4, rfl, _, hr4⟩ := hv4.form
  have hf4' := hf3'.then_ hf4
  have hW4 : errW none = .nilIface := rfl
  rw [hW4]
  clear hW3 hf4 hf3' hW4
  go_wp2_with fail
  refine (wire_New hr4 (by rw [num8_length]; decide)).mono ?_
  rintro e w6 ⟨g6, A6, rfl, hR6, hg6, hA6, hf46⟩
  have hf6 := hf4'.then_ hf46
  have hg6' : w.heap.size ≤ g6 := by have := hf4'.size; omega
  clear hf46 hr4 hg6 hv4
  have hw1 : wrap64 m = m := by unfold wrap64; omega
  go_wp2_with fail
  refine (reader_Int hR6 (by rw [num8_length]; decide) m).mono ?_
  intro e w7 h7
  have hX := numX_num8 h0 h1
  have hC : intC (num8 n) 0 m = if n < 0 then 23 else if n > m then 2 else 0 := by rw [intC, numC_num8, hX]; rfl
  change NextOut _ _ _ _ _ _ _ _ _ _ _ _ at h7
  rw [hC, hX] at h7
  clear hC hX
  by_cases hn : n < 0
  · rw [if_pos hn] at h7
    rcases h7 with ⟨h, _⟩ | h7
    · cases h
    obtain ⟨_, rfl, ⟨p7, hR7⟩, hf67⟩ := h7
    have hf7 : Fr (fun _ => False) w w7 := hf6.trans hf67 (fun k hk e => by omega)
    clear hf67
    go_wp2_with fail
    refine (reader_End hR7 (by rw [num8_length]; decide)).mono ?_
    rintro e w8 ⟨rfl, hf78⟩
    have hf8 := hf7.then_ hf78
    have hE : errO (endE (num8 n) p7 (some ([((⟨#[105, 110, 116]⟩ : ByteArray), ((0 : Nat) : Int))], 23))) = errV [((⟨#[105, 110, 116]⟩ : ByteArray), ((0 : Nat) : Int))] 23 := rfl
    rw [hE]
    have HCo := fault_Code (hG0.fr hf8 id) [((⟨#[105, 110, 116]⟩ : ByteArray), ((0 : Nat) : Int))] 23
    clear hE hR7
    go_wp2_with (go_at_call 15; refine HCo.mono ?_; rintro e w9 ⟨rfl, hf89⟩)
    go_ret
    exact ⟨rfl, hf8.then_ hf89⟩
  · rw [if_neg hn] at h7
    by_cases hm : n > m
    · rw [if_pos hm] at h7
      rcases h7 with ⟨h, _⟩ | h7
      · cases h
      obtain ⟨_, rfl, ⟨p7, hR7⟩, hf67⟩ := h7
      have hf7 : Fr (fun _ => False) w w7 := hf6.trans hf67 (fun k hk e => by omega)
      clear hf67
      go_wp2_with fail
      refine (reader_End hR7 (by rw [num8_length]; decide)).mono ?_
      rintro e w8 ⟨rfl, hf78⟩
      have hf8 := hf7.then_ hf78
      have hE : errO (endE (num8 n) p7 (some ([((⟨#[105, 110, 116]⟩ : ByteArray), ((0 : Nat) : Int))], 2))) = errV [((⟨#[105, 110, 116]⟩ : ByteArray), ((0 : Nat) : Int))] 2 := rfl
      rw [hE]
      have HCo := fault_Code (hG0.fr hf8 id) [((⟨#[105, 110, 116]⟩ : ByteArray), ((0 : Nat) : Int))] 2
      clear hE hR7
      go_wp2_with (go_at_call 15; refine HCo.mono ?_; rintro e w9 ⟨rfl, hf89⟩)
      go_ret
      exact ⟨rfl, hf8.then_ hf89⟩
    · rw [if_neg hm] at h7
      rcases h7 with ⟨_, v7, rfl, rfl, hR7, hf67⟩ | ⟨h, _⟩
      · have hf7 : Fr (fun _ => False) w w7 := hf6.trans hf67 (fun k hk e => by omega)
        clear hf67
        go_wp2_with fail
        refine (reader_End hR7 (by rw [num8_length]; decide)).mono ?_
        rintro e w8 ⟨rfl, hf78⟩
        have hf8 := hf7.then_ hf78
        have hE : errO (endE (num8 n) (0 + 8) none) = .nilIface := by rw [endE, if_neg (by rw [num8_length]; decide)]; rfl
        rw [hE]
        clear hE hR7
        go_wp2_with fail
        go_ret
        exact ⟨rfl, hf8⟩
      · exact absurd rfl h
end Go.Proofs.YtkbcobbnjiekfaaDoor
