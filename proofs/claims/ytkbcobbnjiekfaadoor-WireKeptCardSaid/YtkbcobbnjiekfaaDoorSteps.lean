/- Steps; cohortref01.Same. -/
import Derived.Test.YtkbcobbnjiekfaaDoorTrail
import Derived.Lib.Hide
import Derived.Laws.StructEq
namespace Go.Proofs.YtkbcobbnjiekfaaDoor
open Go Go.RowKit
/-- A slice of steps. -/
def StepRow (w : World) (A : Option Addr) (l : List (ByteArray × Int)) : Prop :=
  ∀ (k : Nat) x, l[k]? = some x → ∃ b o, A = some ⟨b, o, none⟩ ∧ w.cell? ⟨b, o + k * 2, none⟩ = some (.string x.1) ∧ w.cell? ⟨b, o + k * 2 + 1, none⟩ = some (.int .i64 x.2)
theorem StepRow.fr {S : Nat → Prop} {w w' : World} {A : Option Addr} {l : List (ByteArray × Int)} (h : StepRow w A l) (hf : Fr S w w') (hS : ∀ b o, A = some ⟨b, o, none⟩ → ¬ S b) : StepRow w' A l := by
  intro k x hx
  obtain ⟨b, o, e, h1, h2⟩ := h k x hx
  exact ⟨b, o, e, hf.cell_some h1 (hS b o e), hf.cell_some h2 (hS b o e)⟩
theorem stepCells_at : ∀ (l : List (ByteArray × Int)) (k : Nat) x, l[k]? = some x → (stepCells l)[k * 2]? = some (.string x.1) ∧ (stepCells l)[k * 2 + 1]? = some (.int .i64 x.2)
  | [], k, x, h => by simp at h
  | q :: l, 0, x, h => by
    simp only [List.getElem?_cons_zero, Option.some.injEq] at h
    subst h
    simp [stepCells]
  | q :: l, k + 1, x, h => by
    have := stepCells_at l k x (by simpa using h)
    simp only [stepCells, List.flatMap_cons, List.cons_append, List.nil_append] at this ⊢
    rw [show (k + 1) * 2 = k * 2 + 1 + 1 by omega]
    exact this
theorem StepRow.of_own {w : World} {base : Nat} {A : Option Addr} {n cap : Nat} {l : List (ByteArray × Int)} (h : w.ownsRow base 59 2 (.slice A n cap) n (stepCells l)) : StepRow w A l := by
  obtain ⟨A', cap', hv, _, hat⟩ := own_form h
  cases hv
  intro k x hx
  obtain ⟨h1, h2⟩ := stepCells_at l k x hx
  obtain ⟨b, hb, _, hc⟩ := hat _ _ h1
  obtain ⟨b', hb', _, hc'⟩ := hat _ _ h2
  rw [hb] at hb'
  cases hb'
  exact ⟨b, 0, hb, by rw [Nat.zero_add]; exact hc, by rw [Nat.zero_add]; exact hc'⟩
theorem bytes_inj {a b : ByteArray} (h : a.toList = b.toList) : a = b := by
  rw [ByteArray.toList_eq, ByteArray.toList_eq] at h
  exact ByteArray.ext (Array.ext' h)
theorem take_both {α : Type} {l m : List α} {k : Nat} {x y : α} (h : l.take k = m.take k) (hx : l[k]? = some x) (hy : m[k]? = some y) (hxy : x = y) : l.take (k + 1) = m.take (k + 1) := by
  obtain ⟨h1, rfl⟩ := List.getElem?_eq_some_iff.1 hx
  obtain ⟨h2, rfl⟩ := List.getElem?_eq_some_iff.1 hy
  rw [List.take_succ_eq_append_getElem h1, List.take_succ_eq_append_getElem h2, h, hxy]
def SameS (w : World) (l m : List (ByteArray × Int)) (e : Ending) (w' : World) : Prop := e = .returned (.bool (decide (l = m))) ∧ Fr (fun _ => False) w w'
theorem sameS_no {w w' : World} {l m : List (ByteArray × Int)} (h : l ≠ m) (hf : Fr (fun _ => False) w w') : SameS w l m (.returned (.bool false)) w' := ⟨by rw [decide_eq_false h], hf⟩
theorem sameS_yes {w w' : World} {l m : List (ByteArray × Int)} (h : l = m) (hf : Fr (fun _ => False) w w') : SameS w l m (.returned (.bool true)) w' := ⟨by rw [decide_eq_true h], hf⟩
theorem ref01_Same {w : World} {A A' : Option Addr} {l m : List (ByteArray × Int)} {cap cap' : Nat} (h : StepRow w A l) (h' : StepRow w A' m) (hl : l.length ≤ 1000) :
    Calls Tryd.prog 62 #[.slice A l.length cap, .slice A' m.length cap'] w (SameS w l m) := by
  by_cases hlen : l.length = m.length
  · go_enter Tryd.func62, Tryd.ntmps62
    go_wp2_with fail
    go_loopw [5] (fun i wr => ∃ k : Nat, k ≤ l.length ∧ i = .int .i64 k ∧ l.take k = m.take k ∧ Fr (fun _ => False) w wr) (fun i _ => l.length - (intOf i).toNat)
    case atStart => exact ⟨0, by omega, rfl, by simp, Fr.refl _ _⟩
    case round =>
      obtain ⟨k, hk, rfl, heq, hf⟩ := hrel
      by_cases hlt : k < l.length
      · obtain ⟨x, hx⟩ : ∃ x, l[k]? = some x := ⟨l[k], List.getElem?_eq_getElem hlt⟩
        obtain ⟨y, hy⟩ : ∃ y, m[k]? = some y := ⟨m[k]'(by omega), List.getElem?_eq_getElem (by omega)⟩
        obtain ⟨b, o, rfl, c0, c1⟩ := h k x hx
        obtain ⟨b', o', rfl, c0', c1'⟩ := h' k y hy
        have d0 := hf.cell_some c0 id
        have d1 := hf.cell_some c1 id
        have d0' := hf.cell_some c0' id
        have d1' := hf.cell_some c1' id
        have HX := Lib.hid hx
        have HY := Lib.hid hy
        have HE := Lib.hid heq
        clear h h' c0 c1 c0' c1' hx hy heq
        by_cases hs : x.1 = y.1
        · have b1 : (x.1.toList == y.1.toList) = true := by rw [hs]; simp
          by_cases hn : x.2 = y.2
          · have b2 : (x.2 == y.2) = true := by simp [hn]
            have hxy : Hid (x = y) := by
              show x = y
              cases x; cases y; simp_all
            clear hs
            go_wp2_with fail
            go_quiet (fail)
            go_wp2
            go_roundw
            case rel => exact ⟨k + 1, by omega, by go_num, take_both HE.out HX.out HY.out hxy.out, hf.drewN _⟩
            case measure => simp [intOf]; omega
          · have b2 : (x.2 == y.2) = false := by simp [hn]
            have hxy : Hid (l ≠ m) := fun h => hn (by have := HX.out; rw [h, HY.out] at this; cases this; rfl)
            clear hs
            go_wp2_with fail
            go_quiet (fail)
            go_wp2
            go_ret
            exact sameS_no hxy.out (hf.drewN _)
        · have b1 : (x.1.toList == y.1.toList) = false := by simpa using fun h => hs (bytes_inj h)
          have hxy : Hid (l ≠ m) := fun h => hs (by have := HX.out; rw [h, HY.out] at this; cases this; rfl)
          clear hs
          go_wp2_with fail
          go_quiet (fail)
          go_wp2
          go_ret
          exact sameS_no hxy.out (hf.drewN _)
      · have hkl : k = l.length := by omega
        have hlm : Hid (l = m) := by
          rw [hkl, List.take_of_length_le (Nat.le_refl _), hlen, List.take_of_length_le (Nat.le_refl _)] at heq
          exact heq
        clear h h' heq
        go_wp2
        go_ret
        exact sameS_yes hlm.out hf
  · have h1 : ((l.length : Int) == (m.length : Int)) = false := by simp; omega
    have hlm : Hid (l ≠ m) := fun h => hlen (by rw [h])
    go_enter Tryd.func62, Tryd.ntmps62
    go_wp2
    go_ret
    exact sameS_no hlm.out (Fr.refl _ _)
end Go.Proofs.YtkbcobbnjiekfaaDoor
