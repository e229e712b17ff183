/- cohortref04.SameInts; cohortref05.Same. -/
import Derived.Test.YtjnmfaaegbkmhaaCheck
namespace Go.Proofs.Ytjnmfaaegbkmhaa
open Go Go.RowKit
def Yes (w : World) (e : Ending) (w' : World) : Prop := e = .returned (.bool true) ∧ Fr (fun _ => False) w w'
theorem ref04_SameInts {w : World} {B B' : Nat} {A A' : Option Addr} {xs : List Int} {n cap cap' : Nat} (h : IntRow w B A xs) (h' : IntRow w B' A' xs) (hl : xs.length ≤ 9223372036854775807) (hn : n = xs.length) :
    Calls Try.prog 36 #[.slice A n cap, .slice A' n cap'] w (Yes w) := by
  subst hn
  go_enter Try.func36, Try.ntmps36
  go_wp2_with fail
  go_loopw [5] (fun i wr => ∃ k : Nat, k ≤ xs.length ∧ i = .int .i64 k ∧ Fr (fun _ => False) w wr) (fun i _ => xs.length - (intOf i).toNat)
  case atStart => exact ⟨0, by omega, rfl, Fr.refl _ _⟩
  case round =>
    obtain ⟨k, hk, rfl, hf⟩ := hrel
    by_cases hlt : k < xs.length
    · obtain ⟨x, hx⟩ : ∃ x, xs[k]? = some x := ⟨xs[k], List.getElem?_eq_getElem hlt⟩
      obtain ⟨b, o, rfl, _, c0⟩ := h k x hx
      obtain ⟨b', o', rfl, _, c0'⟩ := h' k x hx
      have d0 := hf.cell_some c0 id
      have d0' := hf.cell_some c0' id
      clear h h' c0 c0' hx
      go_wp2_with fail
      go_big_quiet (fail)
      go_wp2
      go_roundw
      case rel => exact ⟨k + 1, by omega, by go_num, hf.drewN _⟩
      case measure => simp [intOf]; omega
    · have hkl : k = xs.length := by omega
      clear h h'
      go_wp2
      go_ret
      exact ⟨rfl, hf⟩
set_option maxRecDepth 100000 in
theorem ref05_Same {w : World} {B B' : Nat} {A A' : Option Addr} {xs : List Int} {n cap cap' : Nat} (h : IntRow w B A xs) (h' : IntRow w B' A' xs) (hl : xs.length ≤ 9223372036854775807) (hn : n = xs.length) (G D : Int) :
    Calls Try.prog 17 #[.agg #[.int .i64 G, .int .i64 D, .slice A n cap], .agg #[.int .i64 G, .int .i64 D, .slice A' n cap']] w (Yes w) := by
  subst hn
  have hf0 : Fr (fun _ => False) w ((w.alloc (Obj.cells #[.int .i64 G, .int .i64 D, .slice A xs.length cap] 25)).alloc (Obj.cells #[.int .i64 G, .int .i64 D, .slice A' xs.length cap'] 25)) := ((Fr.refl _ _).alloc _).alloc _
  have h1 := h.fr hf0 (fun _ _ => id)
  have h2 := h'.fr hf0 (fun _ _ => id)
  clear h h'
  go_enter Try.func17, Try.ntmps17
  go_wp2_with fail
  refine (ref04_SameInts h1 h2 hl rfl).mono ?_
  rintro e w1 ⟨rfl, hf1⟩
  go_wp2
  go_ret
  exact ⟨rfl, hf0.then_ hf1⟩
end Go.Proofs.Ytjnmfaaegbkmhaa
