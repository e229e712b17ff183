/- cohortref02.Same, SameNums, of alike rows. -/
import Derived.Test.YtkbcobbnjiekfaaDoorConv
namespace Go.Proofs.YtkbcobbnjiekfaaDoor
open Go Go.RowKit
def Yes (w : World) (e : Ending) (w' : World) : Prop := e = .returned (.bool true) ∧ Fr (fun _ => False) w w'
theorem ref02_SameNums {w : World} {F F' : Nat → Prop} {A A' : Option Addr} {xs : List Int} {n cap cap' : Nat} (h : NumRow w F A xs) (h' : NumRow w F' A' xs) (hl : xs.length ≤ 9223372036854775807) (hn : n = xs.length) :
    Calls Tryd.prog 32 #[.slice A n cap, .slice A' n cap'] w (Yes w) := by
  subst hn
  go_enter Tryd.func32, Tryd.ntmps32
  go_wp2_with fail
  go_loopw [5] (fun i wr => ∃ k : Nat, k ≤ xs.length ∧ i = .int .i64 k ∧ Fr (fun _ => False) w wr) (fun i _ => xs.length - (intOf i).toNat)
  case atStart => exact ⟨0, by omega, rfl, Fr.refl _ _⟩
  case round =>
    obtain ⟨k, hk, rfl, hf⟩ := hrel
    by_cases hlt : k < xs.length
    · obtain ⟨x, hx⟩ : ∃ x, xs[k]? = some x := ⟨xs[k], List.getElem?_eq_getElem hlt⟩
      obtain ⟨b, o, rfl, _, c0⟩ := h k x hx
      obtain ⟨b', o', rfl, _, c0'⟩ := h' k x hx
      have d0 := hf.cell_some c0 id
      have d0' := hf.cell_some c0' id
      clear h h' c0 c0' hx
      go_wp2_with fail
      go_quiet (fail)
      go_wp2
      go_roundw
      case rel => exact ⟨k + 1, by omega, by go_num, hf.drewN _⟩
      case measure => simp [intOf]; omega
    · have hkl : k = xs.length := by omega
      clear h h'
      go_wp2
      go_ret
      exact ⟨rfl, hf⟩
theorem ref02_Same {w : World} {F F' : Nat → Prop} {A A' : Option Addr} {l : List (List Int)} {n cap cap' : Nat} (h : TextRow w F A l) (h' : TextRow w F' A' l) (hl : l.length ≤ 9223372036854775807) (hn : n = l.length) :
    Calls Tryd.prog 31 #[.slice A n cap, .slice A' n cap'] w (Yes w) := by
  subst hn
  go_enter Tryd.func31, Tryd.ntmps31
  go_wp2_with fail
  go_loopw [5] (fun i wr => ∃ k : Nat, k ≤ l.length ∧ i = .int .i64 k ∧ Fr (fun _ => False) w wr) (fun i _ => l.length - (intOf i).toNat)
  case atStart => exact ⟨0, by omega, rfl, Fr.refl _ _⟩
  case round =>
    obtain ⟨k, hk, rfl, hf⟩ := hrel
    by_cases hlt : k < l.length
    · obtain ⟨x, hx⟩ : ∃ x, l[k]? = some x := ⟨l[k], List.getElem?_eq_getElem hlt⟩
      obtain ⟨b, o, A1, q1, rfl, _, c0, r0⟩ := h k x hx
      obtain ⟨b', o', A2, q2, rfl, _, c0', r0'⟩ := h' k x hx
      have d0 := hf.cell_some c0 id
      have d0' := hf.cell_some c0' id
      have hcv1 := fun n => conv_bytes (w := wr.drewN n) (n := x.length) (cap := q1) ((r0.fr hf (fun _ _ => id)).fr ((Fr.refl (fun _ => False) wr).drewN n) (fun _ _ => id)) rfl
      have hcv2 := fun n => conv_bytes (w := wr.drewN n) (n := x.length) (cap := q2) ((r0'.fr hf (fun _ _ => id)).fr ((Fr.refl (fun _ => False) wr).drewN n) (fun _ _ => id)) rfl
      clear h h' c0 c0' hx r0 r0'
      go_wp2_with fail
      go_big_quiet (fail)
      go_wp2
      go_roundw
      case rel => exact ⟨k + 1, by omega, by go_num, hf.drewN _⟩
      case measure => simp [intOf]; omega
    · have hkl : k = l.length := by omega
      clear h h'
      go_wp2
      go_ret
      exact ⟨rfl, hf⟩
end Go.Proofs.YtkbcobbnjiekfaaDoor
