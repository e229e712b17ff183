/- cohortlaw02.head. -/
import Derived.Test.YtkbcobbnjiekfaaDoorWireT
import Derived.Test.YtkbcobbnjiekfaaDoorReadI
import Derived.Test.YtkbcobbnjiekfaaDoorConv
import Derived.Test.YtkbcobbnjiekfaaDoorText
import Derived.Test.YtkbcobbnjiekfaaDoorCode
import Derived.Lib.SmallJoins
namespace Go.Proofs.YtkbcobbnjiekfaaDoor
open Go Go.RowKit
def Fine (w : World) (b : Bool) (e : Ending) (w' : World) : Prop := e = .returned (.bool b) ∧ Fr (fun _ => False) w w'
theorem ByteAt.row {w : World} {b o : Nat} {xs : List Int} (h : ByteAt w b o xs) : ByteRow w (fun k => k = b) (some ⟨b, o, none⟩) xs := fun k x hx => ⟨b, o, rfl, rfl, h k x hx⟩
theorem head_text : errText [((⟨#[116, 101, 120, 116]⟩ : ByteArray), 0)] 21 = (⟨#[116, 101, 120, 116, 32, 48, 58, 32, 99, 111, 104, 111, 114, 116, 58, 32, 101, 114, 114, 111, 114, 32, 50, 49]⟩ : ByteArray) := by decide +kernel
set_option maxRecDepth 100000 in
theorem law02_head {w : World} (hG0 : Laid w) : Calls Tryd.prog 9 #[] w (Fine w true) := by
  have hGb : 0 < w.heap.size := World.block_lt_of_cell? w _ hG0
  have hcv := Joins.run_convert_bytes_const_at (P := Tryd.prog) (w.alloc (Obj.cells #[.slice none 0 0, .nilIface] 28)) 24 5 #[.int .u8 97] 1 1 (w.heap.size + 1) (by simp) Tryd.underlying24 Tryd.underlying5
  have hf2 : Fr (fun _ => False) w ((w.alloc (Obj.cells #[.slice none 0 0, .nilIface] 28)).alloc (Obj.cells #[.int .u8 97] 5 (1, 2))) := ((Fr.refl _ _).alloc _).alloc _
  have hW : WriterAt ((w.alloc (Obj.cells #[.slice none 0 0, .nilIface] 28)).alloc (Obj.cells #[.int .u8 97] 5 (1, 2))) w.heap.size w.heap.size (.slice none 0 0) [] none := ⟨(Blk.new _ _ _).alloc _, Own8.nil _ _⟩
  have hr : ByteRow ((w.alloc (Obj.cells #[.slice none 0 0, .nilIface] 28)).alloc (Obj.cells #[.int .u8 97] 5 (1, 2))) (fun k => k = w.heap.size + 1) (some ⟨w.heap.size + 1, 0, none⟩) [97] := by
    refine ByteAt.row (fun k x hx => ?_)
    rw [Nat.zero_add, Joins.cell_alloc_mark_at _ _ _ _ _ k (by simp)]
    cases k with
    | zero => cases hx; rfl
    | succ k => cases hx
  go_enter Tryd.func9, Tryd.ntmps9
  go_wp2_with fail
  refine (writer_Text (s := [97]) hW (by simp; omega) hr (fun k _ => by simp [Value.ownBlock]) (by simp)).mono ?_
  rintro e w3 ⟨v3, rfl, hW3, hf3, hk3⟩
  have hW3 : WriterAt w3 w.heap.size w.heap.size v3 (textB [97]) none := hW3
  have hf3' : Fr (fun _ => False) w w3 := hf2.trans hf3 (fun k hk h => by rcases h with h | h; (· omega); (· cases h))
  clear hW hr hf2 hf3 hk3
  go_wp2_with fail
  refine (writer_Bytes hW3 (by decide)).mono ?_
  rintro e w4 ⟨v4, rfl, hv4, hf4⟩
  have hv4 : Own8 w4 w3.heap.size v4 (textB [97]) := hv4
  obtain ⟨A4, cap4, rfl, _, hr4⟩ := hv4.form
  have hf4' := hf3'.then_ hf4
  have hW4 : errW none = .nilIface := rfl
  rw [hW4]
  clear hW3 hf4 hf3' hW4
  go_wp2_with fail
  have hr5 := (ByteAt.new w4 [0, 0, 0, 2, 97]).row
  have hf45 : Fr (fun _ => False) w4 (w4.alloc (Obj.cells (bytesV [0, 0, 0, 2, 97]).toArray 5)) := (Fr.refl _ _).alloc _
  refine (wire_New (bs := [0, 0, 0, 2, 97]) hr5 (by decide)).mono ?_
  rintro e w6 ⟨g6, A6, rfl, hR6, hg6, hA6, hf56⟩
  have hf46 := hf45.then_ hf56
  have hr6 := hr4.fr hf46 (fun _ _ => id)
  have hf6 := hf4'.then_ hf46
  have hsz6 := hf6.size
  have hsz46 := hf46.size
  clear hr5 hf45 hf56 hr4
  go_wp2_with fail
  refine (reader_Text hR6 (by decide) (fun x hx => by simp at hx; omega)).mono ?_
  rintro e w7 (⟨h7, _⟩ | ⟨_, rfl, ⟨p7, hR7⟩, hf67⟩)
  · exact absurd h7 (by decide +kernel)
  have hC : textC [0, 0, 0, 2, 97] 0 = 21 := by decide +kernel
  rw [hC] at hR7
  clear hC
  go_wp2_with fail
  refine (reader_End hR7 (by decide)).mono ?_
  rintro e w8 ⟨rfl, hf78⟩
  have hE : errO (endE [0, 0, 0, 2, 97] p7 (some ([((⟨#[116, 101, 120, 116]⟩ : ByteArray), ((0 : Nat) : Int))], 21))) = errV [((⟨#[116, 101, 120, 116]⟩ : ByteArray), ((0 : Nat) : Int))] 21 := rfl
  rw [hE]
  have hr8 := (hr6.fr hf67 (fun k hk e => by have := hv4.lt k hk; simp at hg6; omega)).fr hf78 (fun _ _ => id)
  have hf68 : Fr (fun _ => False) w w8 := (hf6.trans hf67 (fun k hk e => by have := hf4'.size; simp at hg6; omega)).then_ hf78
  have hG8 := hG0.fr hf68 id
  have hst : strOfNums (textB [97]) = (⟨#[0, 0, 0, 1, 97]⟩ : ByteArray) := by decide +kernel
  have hcv8 := conv_bytes (w := w8) (n := (textB [97]).length) (cap := cap4) hr8 rfl
  rw [hst] at hcv8
  have HV : ∃ t v, errV [((⟨#[116, 101, 120, 116]⟩ : ByteArray), ((0 : Nat) : Int))] 21 = .iface t v := errV_iface _ _
  obtain ⟨t8, v8, hv8⟩ := HV
  have HT := fault_Text1 (⟨#[116, 101, 120, 116]⟩ : ByteArray) 0 21 (by decide) (by decide) (by decide)
  rw [head_text] at HT
  have HCo := fault_Code hG8 [((⟨#[116, 101, 120, 116]⟩ : ByteArray), ((0 : Nat) : Int))] 21
  have hlen : (textB [97]).length = 5 := rfl
  rw [hv8] at HCo ⊢
  have HT2 : ∀ w, Calls Tryd.prog 24 #[.iface t8 v8] w (Texted w (⟨#[116, 101, 120, 116, 32, 48, 58, 32, 99, 111, 104, 111, 114, 116, 58, 32, 101, 114, 114, 111, 114, 32, 50, 49]⟩ : ByteArray)) := fun w => by rw [← hv8]; exact HT w
  rw [hlen] at hcv8 ⊢
  clear hE hv8 HT hr6 hr8 hf67 hf78 hR7 hR6 hf6 hst
  go_wp2_with (first
    | (go_at_call 15; refine HCo.mono ?_; rintro e w9 ⟨rfl, hf89⟩)
    | (go_at_call 24; refine (HT2 _).mono ?_; rintro e w10 ⟨rfl, hf90⟩))
  go_ret
  exact ⟨rfl, (hf68.then_ hf89).then_ hf90⟩
end Go.Proofs.YtkbcobbnjiekfaaDoor
