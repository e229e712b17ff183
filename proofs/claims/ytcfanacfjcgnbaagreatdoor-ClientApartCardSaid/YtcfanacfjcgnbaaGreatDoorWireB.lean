/- wire: the Writer's Bytes; New, cut. -/
import Derived.Test.YtcfanacfjcgnbaaGreatDoorWire
namespace Go.Proofs.YtcfanacfjcgnbaaGreatDoor
open Go Go.RowKit
def wbytes (bs : List Int) : Option Nat → List Int
  | none => bs
  | some _ => []
def Got (w : World) (bs : List Int) (bad : Option Nat) (e : Ending) (w' : World) : Prop :=
  ∃ v, e = .returned (.tuple #[v, errW bad]) ∧ Own8 w' w.heap.size v (wbytes bs bad) ∧ Fr (fun _ => False) w w'
set_option maxRecDepth 100000 in
theorem writer_Bytes {w : World} {g base : Nat} {v : Value} {bs : List Int} {bad : Option Nat} (h : WriterAt w g base v bs bad) (hl : bs.length ≤ 1099511627776) :
    Calls Tryz.prog 61 #[.pointer (some ⟨g, 0, none⟩)] w (Got w bs bad) := by
  obtain ⟨A, cap, rfl, _, hr⟩ := h.own.form
  have c0 : w.cell? ⟨g, 0, none⟩ = some (.slice A bs.length cap) := h.blk.cell 0
  cases bad with
  | none =>
    have c1 : w.cell? ⟨g, 1, none⟩ = some .nilIface := h.blk.cell 1
    go_enter Tryz.func61, Tryz.ntmps61
    go_wp2_with (go_at_call 75; refine (bytes_Clone hr rfl hl).mono ?_; rintro e w1 ⟨v1, rfl, h1, hf1⟩)
    refine bodyPost_ret (v := .tuple #[v1, .nilIface]) (by simp [results, Tryz.results61, go_sem]) rfl ?_
    exact ⟨v1, rfl, h1, hf1⟩
  | some a =>
    obtain ⟨t, u, hu⟩ := errV_iface [((⟨#[119, 114, 105, 116, 101]⟩ : ByteArray), (a : Int))] 2
    have hW : Hid (errW (some a) = .iface t u) := hu
    have c1 : w.cell? ⟨g, 1, none⟩ = some (.iface t u) := by rw [← hu]; exact h.blk.cell 1
    go_enter Tryz.func61, Tryz.ntmps61
    go_wp2_with fail
    go_quiet (fail)
    go_wp2
    refine bodyPost_ret (v := .tuple #[.slice none 0 0, .iface t u]) (by simp [results, Tryz.results61, go_sem]) rfl ?_
    exact ⟨_, by rw [hW.out], Own8.nil _ _, (Fr.refl _ _).drewN _⟩
end Go.Proofs.YtcfanacfjcgnbaaGreatDoor
