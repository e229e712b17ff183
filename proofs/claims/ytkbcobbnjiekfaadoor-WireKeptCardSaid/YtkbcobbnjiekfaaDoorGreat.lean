/- cohortlaw02.Great. -/
import Derived.Test.YtkbcobbnjiekfaaDoorBytes
namespace Go.Proofs.YtkbcobbnjiekfaaDoor
open Go Go.RowKit
structure OpD where
  what : Int
  n : Int
  s : List Int
  l : List (List Int)
  m : List Int
/-- One thing's five cells. -/
structure OpAt (w : World) (F : Nat → Prop) (b o : Nat) (x : OpD) : Prop where
  what : w.cell? ⟨b, o, none⟩ = some (.int .i64 x.what)
  n : w.cell? ⟨b, o + 1, none⟩ = some (.int .i64 x.n)
  s : ∃ A c, w.cell? ⟨b, o + 2, none⟩ = some (.slice A x.s.length c) ∧ ByteRow w F A x.s
  l : ∃ A c, w.cell? ⟨b, o + 3, none⟩ = some (.slice A x.l.length c) ∧ TextRow w F A x.l
  m : ∃ A c, w.cell? ⟨b, o + 4, none⟩ = some (.slice A x.m.length c) ∧ NumRow w F A x.m
def OpRow (w : World) (F : Nat → Prop) (A : Option Addr) (ops : List OpD) : Prop :=
  ∀ k x, ops[k]? = some x → ∃ b o, A = some ⟨b, o, none⟩ ∧ F b ∧ OpAt w F b (o + k * 5) x
theorem OpAt.fr {S F : Nat → Prop} {w w' : World} {b o : Nat} {x : OpD} (h : OpAt w F b o x) (hf : Fr S w w') (hb : ¬ S b) (hS : ∀ k, F k → ¬ S k) : OpAt w' F b o x := by
  obtain ⟨A1, c1, h1, r1⟩ := h.s
  obtain ⟨A2, c2, h2, r2⟩ := h.l
  obtain ⟨A3, c3, h3, r3⟩ := h.m
  exact ⟨hf.cell_some h.what hb, hf.cell_some h.n hb, ⟨A1, c1, hf.cell_some h1 hb, r1.fr hf hS⟩, ⟨A2, c2, hf.cell_some h2 hb, r2.fr hf hS⟩, ⟨A3, c3, hf.cell_some h3 hb, r3.fr hf hS⟩⟩
theorem OpRow.fr {S F : Nat → Prop} {w w' : World} {A : Option Addr} {ops : List OpD} (h : OpRow w F A ops) (hf : Fr S w w') (hS : ∀ k, F k → ¬ S k) : OpRow w' F A ops := by
  intro k x hx
  obtain ⟨b, o, e, hb, ha⟩ := h k x hx
  exact ⟨b, o, e, hb, ha.fr hf (hS b hb) hS⟩
def lens (l : List (List Int)) : Nat := (l.map List.length).sum
def wt (x : OpD) : Nat := x.s.length + lens x.l
def wts (ops : List OpD) : Nat := (ops.map wt).sum
theorem sum_take {α : Type} (f : α → Nat) {l : List α} {k : Nat} {x : α} (h : l[k]? = some x) : ((l.take (k + 1)).map f).sum = ((l.take k).map f).sum + f x := by
  obtain ⟨hlt, rfl⟩ := List.getElem?_eq_some_iff.1 h
  rw [List.take_succ_eq_append_getElem hlt, List.map_append, List.sum_append]
  simp
def Small (ops : List OpD) : Prop := 20 * ops.length + wts ops < 400000
def Greated (w : World) (ops : List OpD) (e : Ending) (w' : World) : Prop := (∃ b, e = .returned (.bool b) ∧ (b = false → Small ops)) ∧ Fr (fun _ => False) w w'
set_option maxRecDepth 100000 in
theorem law02_Great {w : World} {F : Nat → Prop} {A : Option Addr} {cap : Nat} {ops : List OpD} (hr : OpRow w F A ops) (hll : ops.length ≤ 9223372036854775807) (hml : ∀ x ∈ ops, x.s.length ≤ 9223372036854775807 ∧ x.l.length ≤ 9223372036854775807 ∧ x.m.length ≤ 9223372036854775807) :
    Calls Tryd.prog 16 #[.slice A ops.length cap] w (Greated w ops) := by
  go_enter Tryd.func16, Tryd.ntmps16
  go_wp2_with fail
  go_loopw [3, 4] (fun n i wr => ∃ (k N : Nat), k ≤ ops.length ∧ i = .int .i64 k ∧ n = .int .i64 N ∧ N ≤ 4000000 ∧ (N < 400000 → 20 * k + wts (ops.take k) ≤ N) ∧ Fr (fun _ => False) w wr) (fun _ i _ => ops.length - (intOf i).toNat)
  case atStart => exact ⟨0, 0, by omega, rfl, rfl, by omega, fun _ => by simp [wts], Fr.refl _ _⟩
  case round =>
    obtain ⟨k, N, hk, rfl, rfl, hN, hS, hf⟩ := hrel
    by_cases hlt : k < ops.length
    · by_cases hn : N < 400000
      · obtain ⟨x, hx⟩ : ∃ x, ops[k]? = some x := ⟨ops[k], List.getElem?_eq_getElem hlt⟩
        obtain ⟨b, o, rfl, hFb, hop0⟩ := hr k x hx
        have hop := hop0.fr hf id (fun _ _ => id)
        obtain ⟨hs0, hl0, hm0⟩ := hml x (List.mem_of_getElem? hx)
        have HX := Lib.hid hx
        obtain ⟨A1, c1, e1, _⟩ := hop.s
        obtain ⟨A2, c2, e2, r2⟩ := hop.l
        obtain ⟨A3, c3, e3, _⟩ := hop.m
        have hn' : (N : Int) < 400000 := by omega
        have hlt' : (k : Int) < (ops.length : Int) := by omega
        clear hr hx hop hop0 hml
        go_wp2_with fail
        go_big_quiet (fail)
        obtain ⟨N1, hN1, hb1, hb2⟩ : ∃ N1 : Nat, ((((N : Int) + 20 + if 400000 < (x.s.length : Int) then 400000 else (x.s.length : Int)) + 8 * if 40000 < (x.m.length : Int) then 40000 else (x.m.length : Int)) + 8 * if 40000 < (x.l.length : Int) then 40000 else (x.l.length : Int)) = (N1 : Int) ∧ N1 ≤ 2000000 ∧ (N1 < 400000 → N + 20 + x.s.length ≤ N1) := by
          refine ⟨Int.toNat ((((N : Int) + 20 + if 400000 < (x.s.length : Int) then 400000 else (x.s.length : Int)) + 8 * if 40000 < (x.m.length : Int) then 40000 else (x.m.length : Int)) + 8 * if 40000 < (x.l.length : Int) then 40000 else (x.l.length : Int)), (Int.toNat_of_nonneg ?_).symm, ?_, ?_⟩ <;> (split <;> split <;> split <;> omega)
        rw [hN1]
        generalize (if 400000 < (x.s.length : Int) then (400000 : Int) else (x.s.length : Int)) = q1
        generalize (if 40000 < (x.m.length : Int) then (40000 : Int) else (x.m.length : Int)) = q2
        generalize (if 40000 < (x.l.length : Int) then (40000 : Int) else (x.l.length : Int)) = q3
        have HS := Lib.hid hS
        have HN1 := Lib.hid hb2
        have HB1 := Lib.hid hb1
        clear hN1 hb2 hS hb1 hN hn
        have hf2 := hf.drewN nq
        have e2' : (wr.drewN nq).cell? ⟨b, o + k * 5 + 3, none⟩ = some (.slice A2 x.l.length c2) := e2
        have r2' : TextRow (wr.drewN nq) F A2 x.l := r2.fr ((Fr.refl (fun _ => False) wr).drewN nq) (fun _ _ => id)
        generalize wr.drewN nq = wq at hf2 e2' r2' ⊢
        clear e1 e2 e3 r2 hf
        go_wp2_with fail
        go_loopw [3, 5] (fun n i wi => ∃ (j M : Nat), j ≤ x.l.length ∧ i = .int .i64 j ∧ n = .int .i64 M ∧ M ≤ 3000000 ∧ (M < 400000 → 20 * (k + 1) + wts (ops.take k) + x.s.length + lens (x.l.take j) ≤ M) ∧ Fr (fun _ => False) wq wi) (fun _ i _ => x.l.length - (intOf i).toNat)
        case atStart => exact ⟨0, N1, by omega, rfl, rfl, (by have := HB1.out; omega), fun h => by have h1 := HN1.out h; have h2 := HS.out (by omega); simp [lens]; omega, Fr.refl _ _⟩
        case round =>
          obtain ⟨j, M, hj, rfl, rfl, hM, hSj, hfi⟩ := hrel
          have e2i := hfi.cell_some e2' id
          by_cases hjl : j < x.l.length
          · by_cases hMn : M < 400000
            · obtain ⟨t, ht⟩ : ∃ t, x.l[j]? = some t := ⟨x.l[j], List.getElem?_eq_getElem hjl⟩
              obtain ⟨b2, o2, A4, c4, rfl, _, e4, _⟩ := r2' j t ht
              have e4i := hfi.cell_some e4 id
              have HT := Lib.hid ht
              have HSJ := Lib.hid hSj
              have hMn' : (M : Int) < 400000 := by omega
              have hjl' : (j : Int) < (x.l.length : Int) := by omega
              clear hSj ht r2' e2' e4
              go_wp2_with fail
              go_roundw
              case rel =>
                obtain ⟨M1, hM1, hc1, hc2⟩ : ∃ M1 : Nat, ((M : Int) + if 400000 < (t.length : Int) then (400000 : Int) else (t.length : Int)) = (M1 : Int) ∧ M1 ≤ 800000 ∧ (M1 < 400000 → M + t.length ≤ M1) := by
                  refine ⟨Int.toNat ((M : Int) + if 400000 < (t.length : Int) then (400000 : Int) else (t.length : Int)), (Int.toNat_of_nonneg ?_).symm, ?_, ?_⟩ <;> (split <;> omega)
                refine ⟨j + 1, M1, by omega, by go_num, by rw [hM1], by omega, fun h => ?_, hfi⟩
                have h1 := hc2 h
                have h2 := HSJ.out (by omega)
                rw [lens] at h2 ⊢
                rw [sum_take List.length HT.out]
                omega
              case measure => simp [intOf]; omega
            · have hMn' : ¬ (M : Int) < 400000 := by omega
              have HM : Hid (¬ M < 400000) := hMn
              have HMB : Hid (M ≤ 3000000) := hM
              clear hMn hM hSj
              go_wp2_with fail
              go_roundw
              case rel => exact ⟨k + 1, M, by omega, by go_num, rfl, (by have := HMB.out; omega), fun h => absurd h HM.out, hf2.then_ hfi⟩
              case measure => simp [intOf]; omega
          · obtain rfl : j = x.l.length := by omega
            have HMB : Hid (M ≤ 3000000) := hM
            have HSJ : Hid (M < 400000 → 20 * (k + 1) + wts (ops.take (k + 1)) ≤ M) := fun h => by
              have h2 := hSj h
              rw [List.take_length] at h2
              have h3 := sum_take wt HX.out
              unfold wts at h2 ⊢
              rw [h3, wt]
              omega
            clear hM hSj
            go_wp2_with fail
            go_roundw
            case rel => exact ⟨k + 1, M, by omega, by go_num, rfl, (by have := HMB.out; omega), HSJ.out, hf2.then_ hfi⟩
            case measure => simp [intOf]; omega
      · have hn' : ¬ (N : Int) < 400000 := by omega
        have hn2 : decide ((N : Int) ≥ 400000) = true := decide_eq_true (by omega)
        clear hn hN hS hr hml
        go_wp2
        go_ret
        exact ⟨⟨true, rfl, fun h => by cases h⟩, hf⟩
    · obtain rfl : k = ops.length := by omega
      have HS : Hid (N < 400000 → Small ops) := fun h => by
        have := hS h
        rw [List.take_length] at this
        unfold Small
        omega
      by_cases hn : N < 400000
      · have hn2 : ¬ (N : Int) ≥ 400000 := by omega
        have HN : Hid (N < 400000) := hn
        clear hn hN hS hr hml
        go_wp2
        go_ret
        exact ⟨⟨false, rfl, fun _ => HS.out HN.out⟩, hf⟩
      · have hn2 : (N : Int) ≥ 400000 := by omega
        clear hn hN hS hr hml
        go_wp2
        go_ret
        exact ⟨⟨true, rfl, fun h => by cases h⟩, hf⟩
end Go.Proofs.YtkbcobbnjiekfaaDoor
