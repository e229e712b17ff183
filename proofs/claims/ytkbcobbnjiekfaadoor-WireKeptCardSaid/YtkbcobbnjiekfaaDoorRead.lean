/- wire: the Reader's number, count and text. -/
import Derived.Test.YtkbcobbnjiekfaaDoorWireB
namespace Go.Proofs.YtkbcobbnjiekfaaDoor
open Go Go.RowKit
def step64 (n c : Int) : Int := bits .or .i64 (wrap64 (n * 256)) (wrap64 c)
def spell64 (l : List Int) : Int := l.foldl step64 0
theorem spell_take {l : List Int} {k : Nat} {x : Int} (h : l[k]? = some x) : spell64 (l.take (k + 1)) = step64 (spell64 (l.take k)) x := by
  obtain ⟨hlt, rfl⟩ := List.getElem?_eq_some_iff.1 h
  rw [spell64, List.take_succ_eq_append_getElem hlt, List.foldl_append]
  rfl
/-- What a reader's inner function answers: a value, or a number that tells what is wrong. -/
def ReadOut (w : World) (g : Nat) (A : Option Addr) (bs : List Int) (V : Value → World → Prop) (Z : Value → Prop) (pos : Nat) (c : Int) (e : Ending) (w' : World) : Prop :=
  ∃ v p, e = .returned (.tuple #[v, .int .i64 c]) ∧ (c = 0 → V v w' ∧ p = pos) ∧ (c ≠ 0 → Z v) ∧ ReaderAt w' g A bs p none ∧ Fr (fun k => k = g) w w'
def IsInt (n : Int) (v : Value) (_ : World) : Prop := v = .int .i64 n
set_option maxRecDepth 100000 in
theorem reader_number {w : World} {g : Nat} {A : Option Addr} {bs : List Int} {pos : Nat} (h : ReaderAt w g A bs pos none) (hl : bs.length ≤ 1099511627776) :
    Calls Tryd.prog 41 #[.pointer (some ⟨g, 0, none⟩)] w (ReadOut w g A bs (IsInt (spell64 ((bs.drop pos).take 8))) (fun v => v = .int .i64 0) (pos + 8) (if bs.length - pos < 8 then 21 else 0)) := by
  by_cases h8 : bs.length - pos < 8
  · rw [if_pos h8]
    go_enter Tryd.func41, Tryd.ntmps41
    go_wp2_with fail
    refine (reader_cut h hl 8).mono ?_
    rintro e w' (⟨_, rfl, rfl⟩ | ⟨h2, _⟩)
    · go_wp2_with fail
      go_loopw [6, 16] (fun n i wr => i = .int .i64 0 ∧ n = .int .i64 0 ∧ w = wr) (fun _ _ _ => 0)
      case atStart => exact ⟨rfl, rfl, rfl⟩
      case round =>
        obtain ⟨rfl, rfl, rfl⟩ := hrel
        go_wp2
        refine bodyPost_ret (v := .tuple #[.int .i64 0, .int .i64 21]) (by simp [results, Tryd.results41, go_sem]) rfl ?_
        exact ⟨_, pos, rfl, (fun h => by cases h), (fun _ => rfl), h, Fr.refl _ _⟩
    · omega
  · rw [if_neg h8]
    go_enter Tryd.func41, Tryd.ntmps41
    go_wp2_with fail
    refine (reader_cut h hl 8).mono ?_
    rintro e w' (⟨h2, _⟩ | ⟨_, A', rfl, hr, h1, hf⟩)
    · omega
    · generalize hxs : (bs.drop pos).take 8 = xs at hr
      have HXS := Lib.hid hxs
      have hx8 : xs.length = 8 := by rw [← hxs, List.length_take, List.length_drop]; omega
      have HX8 := Lib.hid hx8
      clear hxs hx8
      go_wp2_with fail
      go_loopw [6, 16] (fun n i wr => ∃ k : Nat, k ≤ 8 ∧ i = .int .i64 k ∧ n = .int .i64 (spell64 (xs.take k)) ∧ w' = wr) (fun _ i _ => 8 - (intOf i).toNat)
      case atStart => exact ⟨0, by omega, rfl, rfl, rfl⟩
      case round =>
        obtain ⟨k, hk, rfl, rfl, rfl⟩ := hrel
        by_cases hlt : k < 8
        · obtain ⟨x, hx⟩ : ∃ x, xs[k]? = some x := ⟨xs[k]'(by have := HX8.out; omega), List.getElem?_eq_getElem (by have := HX8.out; omega)⟩
          obtain ⟨b, o, rfl, _, hc⟩ := hr k x hx
          have HX := Lib.hid hx
          clear hr hx
          go_wp2_with fail
          go_roundw
          case rel => exact ⟨k + 1, by omega, by go_num, by rw [spell_take HX.out]; rfl, by trivial⟩
          case measure => simp [intOf]; omega
        · obtain rfl : k = 8 := by omega
          rw [List.take_of_length_le (by have := HX8.out; omega)]
          go_wp2
          refine bodyPost_ret (v := .tuple #[.int .i64 (spell64 xs), .int .i64 0]) (by simp [results, Tryd.results41, go_sem]) rfl ?_
          exact ⟨_, _, rfl, fun _ => ⟨by rw [IsInt, HXS.out], rfl⟩, (fun h => absurd rfl h), h1, hf⟩
def countC (bs : List Int) (pos : Nat) (most : Int) : Int := if bs.length - pos < 4 then 21 else if spell64 ((bs.drop pos).take 4) > most then 2 else 0
set_option maxRecDepth 100000 in
theorem reader_count {w : World} {g : Nat} {A : Option Addr} {bs : List Int} {pos : Nat} (h : ReaderAt w g A bs pos none) (hl : bs.length ≤ 1099511627776) (most : Int) :
    Calls Tryd.prog 73 #[.pointer (some ⟨g, 0, none⟩), .int .i64 most] w (ReadOut w g A bs (IsInt (spell64 ((bs.drop pos).take 4))) (fun v => ∃ n, v = .int .i64 n) (pos + 4) (countC bs pos most)) := by
  by_cases h8 : bs.length - pos < 4
  · have hC : countC bs pos most = 21 := by rw [countC, if_pos h8]
    rw [hC]
    go_enter Tryd.func73, Tryd.ntmps73
    go_wp2_with fail
    refine (reader_cut h hl 4).mono ?_
    rintro e w' (⟨_, rfl, rfl⟩ | ⟨h2, _⟩)
    · go_wp2_with fail
      go_loopw [8, 18] (fun n i wr => i = .int .i64 0 ∧ n = .int .i64 0 ∧ w = wr) (fun _ _ _ => 0)
      case atStart => exact ⟨rfl, rfl, rfl⟩
      case round =>
        obtain ⟨rfl, rfl, rfl⟩ := hrel
        go_wp2
        refine bodyPost_ret (v := .tuple #[.int .i64 0, .int .i64 21]) (by simp [results, Tryd.results73, go_sem]) rfl ?_
        exact ⟨_, pos, rfl, (fun h => by cases h), (fun _ => ⟨0, rfl⟩), h, Fr.refl _ _⟩
    · omega
  · go_enter Tryd.func73, Tryd.ntmps73
    go_wp2_with fail
    refine (reader_cut h hl 4).mono ?_
    rintro e w' (⟨h2, _⟩ | ⟨_, A', rfl, hr, h1, hf⟩)
    · omega
    · generalize hxs : (bs.drop pos).take 4 = xs at hr
      have HXS := Lib.hid hxs
      have hx8 : xs.length = 4 := by rw [← hxs, List.length_take, List.length_drop]; omega
      have HX8 := Lib.hid hx8
      clear hxs hx8
      go_wp2_with fail
      go_loopw [8, 18] (fun n i wr => ∃ k : Nat, k ≤ 4 ∧ i = .int .i64 k ∧ n = .int .i64 (spell64 (xs.take k)) ∧ w' = wr) (fun _ i _ => 4 - (intOf i).toNat)
      case atStart => exact ⟨0, by omega, rfl, rfl, rfl⟩
      case round =>
        obtain ⟨k, hk, rfl, rfl, rfl⟩ := hrel
        by_cases hlt : k < 4
        · obtain ⟨x, hx⟩ : ∃ x, xs[k]? = some x := ⟨xs[k]'(by have := HX8.out; omega), List.getElem?_eq_getElem (by have := HX8.out; omega)⟩
          obtain ⟨b, o, rfl, _, hc⟩ := hr k x hx
          have HX := Lib.hid hx
          clear hr hx
          go_wp2_with fail
          go_roundw
          case rel => exact ⟨k + 1, by omega, by go_num, by rw [spell_take HX.out]; rfl, by trivial⟩
          case measure => simp [intOf]; omega
        · obtain rfl : k = 4 := by omega
          rw [List.take_of_length_le (by have := HX8.out; omega)]
          have H8 := Lib.hid h8
          clear h8
          by_cases hm : spell64 xs > most
          · have hC : Hid (countC bs pos most = 2) := by show _ = _; rw [countC, if_neg H8.out, HXS.out, if_pos hm]
            go_wp2
            refine bodyPost_ret (v := .tuple #[.int .i64 (spell64 xs), .int .i64 2]) (by simp [results, Tryd.results73, go_sem]) rfl ?_
            exact ⟨_, _, by rw [hC.out], (fun h => by rw [hC.out] at h; cases h), (fun _ => ⟨_, rfl⟩), h1, hf⟩
          · have hC : Hid (countC bs pos most = 0) := by show _ = _; rw [countC, if_neg H8.out, HXS.out, if_neg hm]
            go_wp2
            refine bodyPost_ret (v := .tuple #[.int .i64 (spell64 xs), .int .i64 0]) (by simp [results, Tryd.results73, go_sem]) rfl ?_
            exact ⟨_, _, by rw [hC.out], fun _ => ⟨by rw [IsInt, HXS.out], rfl⟩, (fun _ => ⟨_, rfl⟩), h1, hf⟩
end Go.Proofs.YtkbcobbnjiekfaaDoor
