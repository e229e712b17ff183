/- cohortref02: the document's Writer: Nums, List, Bytes. -/
import Derived.Test.YtcfanacfjcgnbaaGreatDoorRefW
import Derived.Deep.CutRange
namespace Go.Proofs.YtcfanacfjcgnbaaGreatDoor
open Go Go.RowKit
def fineTo (l : List (List Int)) (k : Nat) : Bool := decide (l.length ≤ 1024) && !longs (l.take k)
theorem fineTo_step {l : List (List Int)} {k : Nat} {x : List Int} (h : fineTo l k = true) (hx : l[k]? = some x) : fineTo l (k + 1) = decide (x.length ≤ 65536) := by
  obtain ⟨h1, rfl⟩ := List.getElem?_eq_some_iff.1 hx
  unfold fineTo longs at h ⊢
  rw [List.take_succ_eq_append_getElem h1, List.any_append]
  simp only [Bool.and_eq_true, Bool.not_eq_true'] at h
  rw [h.1, h.2]
  by_cases hl : l[k].length ≤ 65536
  · simp [hl] <;> omega
  · simp [hl] <;> omega
theorem fineTo_all (l : List (List Int)) : fineTo l l.length = decide (l.length ≤ 1024 ∧ longs l = false) := by
  unfold fineTo
  rw [List.take_length]
  cases longs l <;> simp
theorem fineTo_good {l : List (List Int)} (h : l.length ≤ 1024 ∧ longs l = false) (k : Nat) : fineTo l k = true := by
  unfold fineTo
  have h2 : longs (l.take k) = false := by
    have h3 := h.2
    unfold longs at h3 ⊢
    rw [List.any_eq_false] at h3 ⊢
    exact fun x hx => h3 x (List.mem_of_mem_take hx)
  rw [h2, decide_eq_true h.1]
  rfl
set_option maxRecDepth 100000 in
theorem refw_Bytes {w : World} {g base : Nat} {v : Value} {bs : List Int} {bad : Option Nat} (h : RefW w g base v bs bad) (hl : bs.length ≤ 1099511627776) :
    Calls Tryz.prog 36 #[.pointer (some ⟨g, 0, none⟩)] w (Fresh w (wbytes bs bad)) := by
  cases bad with
  | some a =>
    have c1 : w.cell? ⟨g, 1, none⟩ = some (.int .i64 2) := h.blk.cell 1
    go_enter Tryz.func36, Tryz.ntmps36
    go_wp2
    go_ret
    exact ⟨_, rfl, Own8.nil _ _, Fr.refl _ _⟩
  | none =>
    obtain ⟨A, cap, rfl, _, hr⟩ := h.own.form
    have c0 : (w.alloc (Obj.cells #[] 5)).cell? ⟨g, 0, none⟩ = some (.slice A bs.length cap) := (h.blk.alloc _).cell 0
    have c1 : w.cell? ⟨g, 1, none⟩ = some (.int .i64 0) := h.blk.cell 1
    have hr1 := hr.fr ((Fr.refl (fun _ => False) w).alloc (Obj.cells #[] 5)) (fun _ _ => id)
    go_enter Tryz.func36, Tryz.ntmps36
    go_wp2_with (at_builtin; refine wpList_append_text rfl (.tmp 8) (.tmp 12) rfl w.heap.size _ [] rfl (Own8.built w (Nat.le_refl _) [] (by simp) 0 rfl) _ A bs.length cap bs rfl rfl hr1 (by simpa using hl) (by simp) ?_; intro v2 w2 h2 hf2 hk2)
    go_ret
    exact ⟨v2, rfl, by simpa [wbytes] using h2, ((Fr.refl (fun _ => False) w).alloc _).trans hf2 (fun k hk h => by cases h; exact absurd hk (Nat.lt_irrefl _))⟩
end Go.Proofs.YtcfanacfjcgnbaaGreatDoor
