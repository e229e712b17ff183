/- Plain law: numbers as bytes, and back. -/
import Derived.Test.YtkbcobbnjiekfaaDoorRead
import Derived.Laws.BitsLemmas
namespace Go.Proofs.YtkbcobbnjiekfaaDoor
open Go Go.RowKit
def Bytes8 (l : List Int) : Prop := ∀ x ∈ l, 0 ≤ x ∧ x < 256
theorem or_low (a c : Int) (ha : a % 256 = 0) (h0 : 0 ≤ c) (h1 : c < 256) : bits .or .i64 a c = wrap64 (a + c) := by
  have e : bits .or .i64 a c = IntKind.i64.wrap (((BitVec.ofInt 64 a) ||| (BitVec.ofInt 64 c)).toNat : Int) := rfl
  rw [e]
  obtain ⟨c', rfl⟩ := Int.eq_ofNat_of_zero_le h0
  have hc : c' < 256 := by omega
  have h2 : ((BitVec.ofInt 64 a) ||| (BitVec.ofInt 64 (c' : Int))).toNat = (a % 18446744073709551616).toNat + c' := by
    rw [BitVec.toNat_or, BitVec.toNat_ofInt, BitVec.toNat_ofInt]
    have e1 : ((c' : Int) % ((2 ^ 64 : Nat) : Int)).toNat = c' := by omega
    have e2 : (a % ((2 ^ 64 : Nat) : Int)).toNat = 2 ^ 8 * ((a % 18446744073709551616).toNat / 256) := by
      have : (a % 18446744073709551616) % 256 = 0 := by omega
      omega
    rw [e1, e2, ← Nat.two_pow_add_eq_or_of_lt (by omega)]
    omega
  rw [h2]
  have h3 : IntKind.i64.wrap (((a % 18446744073709551616).toNat + c' : Nat) : Int) = wrap64 (((a % 18446744073709551616).toNat + c' : Nat) : Int) := by
    rw [IntKind.wrap_i64, wrap64]
  rw [h3]
  unfold wrap64
  omega
theorem step64_eq (n c : Int) (h0 : 0 ≤ c) (h1 : c < 256) : step64 n c = wrap64 (n * 256 + c) := by
  unfold step64
  have e : wrap64 c = c := by unfold wrap64; omega
  rw [e, or_low _ _ (by unfold wrap64; omega) h0 h1]
  unfold wrap64
  omega
def beI (l : List Int) : Int := l.foldl (fun n c => n * 256 + c) 0
theorem spell_from (l : List Int) (h : Bytes8 l) : ∀ n m : Int, n = wrap64 m → l.foldl step64 n = wrap64 (l.foldl (fun n c => n * 256 + c) m) := by
  induction l with
  | nil => intro n m h; exact h
  | cons c r ih =>
    intro n m e
    obtain ⟨h0, h1⟩ := h c List.mem_cons_self
    simp only [List.foldl_cons]
    refine ih (fun x hx => h x (List.mem_cons_of_mem _ hx)) _ _ ?_
    rw [step64_eq _ _ h0 h1, e]
    unfold wrap64
    omega
theorem spell_eq {l : List Int} (h : Bytes8 l) : spell64 l = wrap64 (beI l) := spell_from l h 0 0 (by unfold wrap64; omega)
theorem num8_eq (n : Int) : num8 n = [n / 72057594037927936 % 256, n / 281474976710656 % 256, n / 1099511627776 % 256, n / 4294967296 % 256, n / 16777216 % 256, n / 65536 % 256, n / 256 % 256, n % 256] := by
  simp [num8, List.range, List.range.loop]
theorem num8_bytes (n : Int) : Bytes8 (num8 n) := by
  intro x hx
  rw [num8_eq] at hx
  simp only [List.mem_cons, List.not_mem_nil, or_false] at hx
  omega
theorem count4_bytes (n : Int) : Bytes8 (count4 n) := by
  intro x hx
  simp only [count4, List.mem_cons, List.not_mem_nil, or_false] at hx
  omega
theorem spell_num8 {n : Int} (h0 : -9223372036854775808 ≤ n) (h1 : n ≤ 9223372036854775807) : spell64 (num8 n) = n := by
  rw [spell_eq (num8_bytes n), num8_eq]
  simp only [beI, List.foldl_cons, List.foldl_nil]
  unfold wrap64
  omega
theorem spell_count4 {n : Int} (h0 : 0 ≤ n) (h1 : n < 4294967296) : spell64 (count4 n) = n := by
  rw [spell_eq (count4_bytes n)]
  simp only [beI, count4, List.foldl_cons, List.foldl_nil]
  unfold wrap64
  omega
theorem num8_spell {l : List Int} (h : Bytes8 l) (hl : l.length = 8) : num8 (spell64 l) = l := by
  match l, hl, h with
  | [a, b, c, d, e, f, g, i], _, h =>
    have ha := h a (by simp)
    have hb := h b (by simp)
    have hc := h c (by simp)
    have hd := h d (by simp)
    have he := h e (by simp)
    have hf := h f (by simp)
    have hg := h g (by simp)
    have hi := h i (by simp)
    rw [spell_eq h, num8_eq]
    simp only [beI, List.foldl_cons, List.foldl_nil, wrap64, List.cons.injEq, and_true]
    refine ⟨?_, ?_, ?_, ?_, ?_, ?_, ?_, ?_⟩ <;> omega
theorem spell4_bound {l : List Int} (h : Bytes8 l) (hl : l.length = 4) : 0 ≤ spell64 l ∧ spell64 l < 4294967296 := by
  match l, hl, h with
  | [a, b, c, d], _, h =>
    have ha := h a (by simp)
    have hb := h b (by simp)
    have hc := h c (by simp)
    have hd := h d (by simp)
    rw [spell_eq h]
    simp only [beI, List.foldl_cons, List.foldl_nil, wrap64]
    omega
theorem count4_spell {l : List Int} (h : Bytes8 l) (hl : l.length = 4) : count4 (spell64 l) = l := by
  match l, hl, h with
  | [a, b, c, d], _, h =>
    have ha := h a (by simp)
    have hb := h b (by simp)
    have hc := h c (by simp)
    have hd := h d (by simp)
    rw [spell_eq h]
    simp only [beI, List.foldl_cons, List.foldl_nil, wrap64, count4, List.cons.injEq, and_true]
    refine ⟨?_, ?_, ?_, ?_⟩ <;> omega
theorem spell8_bound (l : List Int) (h : Bytes8 l) : -9223372036854775808 ≤ spell64 l ∧ spell64 l ≤ 9223372036854775807 := by
  rw [spell_eq h]
  unfold wrap64
  omega
end Go.Proofs.YtkbcobbnjiekfaaDoor
