/- Plain law of layer 20: who signed what, by votes; what a client believes of it. -/
import Derived.Test.YtcfanacfjcgnbaaGreatDoorVote
namespace Go.Proofs.YtcfanacfjcgnbaaGreatDoor
open Go Go.RowKit
/-! Bits. -/
theorem bits_and_one (x : Int) : bits .and .i64 x 1 = x % 2 := by
  have h1 : (BitVec.ofInt 64 x &&& BitVec.ofInt 64 1).toNat = (x % 2).toNat := by
    have e1 : (BitVec.ofInt 64 1).toNat = 1 := by decide
    rw [BitVec.toNat_and, e1, Nat.and_one_is_mod, BitVec.toNat_ofInt]
    omega
  have h2 : ∀ n : Nat, n < 2 → IntKind.i64.wrap (n : Int) = n := fun n hn => by
    rcases (show n = 0 ∨ n = 1 by omega) with rfl | rfl <;> decide
  show IntKind.i64.wrap ((BitVec.ofInt 64 x &&& BitVec.ofInt 64 1).toNat : Int) = _
  rw [h1, h2 _ (by omega)]
  omega
theorem bitOn_mod (m : Int) (k : Nat) : bitOn m k = decide (m / 2 ^ k % 2 = 1) := by
  rw [bitOn, bits_and_one]
  rcases (show m / 2 ^ k % 2 = 0 ∨ m / 2 ^ k % 2 = 1 by omega) with h | h <;> simp [h]
theorem bitOn_int (m : Int) (k : Nat) : bits .and .i64 (m / 2 ^ k) 1 = if bitOn m k = true then 1 else 0 := by
  rw [bits_and_one, bitOn_mod]
  rcases (show m / 2 ^ k % 2 = 0 ∨ m / 2 ^ k % 2 = 1 by omega) with h | h <;> simp [h]
theorem bitOn_test (m : Int) (k : Nat) (hk : k < 10) : bitOn m k = (BitVec.ofInt 64 m).toNat.testBit k := by
  rw [bitOn_mod, Nat.testBit_eq_decide_div_mod_eq, BitVec.toNat_ofInt]
  congr 1
  rcases (show k = 0 ∨ k = 1 ∨ k = 2 ∨ k = 3 ∨ k = 4 ∨ k = 5 ∨ k = 6 ∨ k = 7 ∨ k = 8 ∨ k = 9 by omega) with rfl | rfl | rfl | rfl | rfl | rfl | rfl | rfl | rfl | rfl <;> simp <;> omega
theorem ofInt_wrap (n : Nat) (h : n < 18446744073709551616) : (BitVec.ofInt 64 (IntKind.i64.wrap (n : Int))).toNat = n := by
  rw [BitVec.toNat_ofInt]
  unfold IntKind.wrap
  simp [IntKind.bits, IntKind.signed]
  split <;> omega
theorem bitOn_or (a b : Int) (k : Nat) (hk : k < 10) : bitOn (bits .or .i64 a b) k = (bitOn a k || bitOn b k) := by
  rw [bitOn_test _ _ hk, bitOn_test _ _ hk, bitOn_test _ _ hk]
  show (BitVec.ofInt 64 (IntKind.i64.wrap ((BitVec.ofInt 64 a ||| BitVec.ofInt 64 b).toNat : Int))).toNat.testBit k = _
  rw [ofInt_wrap _ (BitVec.isLt _), BitVec.toNat_or, Nat.testBit_or]
theorem bitOn_and1023 (a : Int) (k : Nat) (hk : k < 10) : bitOn (bits .and .i64 a 1023) k = bitOn a k := by
  rw [bitOn_test _ _ hk, bitOn_test _ _ hk]
  show (BitVec.ofInt 64 (IntKind.i64.wrap ((BitVec.ofInt 64 a &&& BitVec.ofInt 64 1023).toNat : Int))).toNat.testBit k = _
  rw [ofInt_wrap _ (BitVec.isLt _), BitVec.toNat_and, Nat.testBit_and]
  rw [show (BitVec.ofInt 64 1023).toNat = 2 ^ 10 - 1 by decide, Nat.testBit_two_pow_sub_one]
  simp [hk]
theorem bitOn_zero (k : Nat) : bitOn 0 k = false := by
  rw [bitOn_mod]
  simp
/-! What is signed. -/
theorem mem_signL {who d : Int} {L : List (Int × Int)} {p : Int × Int} (hl : L.length < 131072) : p ∈ signL who d L ↔ p ∈ L ∨ (signBad who d = false ∧ p = (who, d)) := by
  unfold signL
  by_cases h1 : signBad who d = true
  · rw [if_pos h1]; simp [h1]
  · have h1' : signBad who d = false := by simpa using h1
    rw [if_neg h1]
    by_cases h2 : (who, d) ∈ L
    · rw [if_pos h2]
      constructor
      · exact .inl
      · rintro (h | ⟨_, rfl⟩)
        · exact h
        · exact h2
    · have h3 : ¬ ((L.length : Int) == 131072) = true := by simp; omega
      rw [if_neg h2, if_neg h3]
      simp [h1']
theorem mem_signTo {gr mask d : Int} {SL : List (Int × Int)} {p : Int × Int} : ∀ (k : Nat), SL.length + k ≤ 131072 → (p ∈ signTo gr mask d SL k ↔ p ∈ SL ∨ ∃ i, i < k ∧ bitOn mask i = true ∧ signBad (memberOf gr i) d = false ∧ p = (memberOf gr i, d))
  | 0, _ => by simp [signTo]
  | k + 1, h => by
    have ih := mem_signTo (gr := gr) (mask := mask) (d := d) (SL := SL) (p := p) k (by omega)
    have hl := signTo_len gr mask d SL k
    unfold signTo
    split
    · rename_i hb
      rw [mem_signL (by omega), ih]
      constructor
      · rintro ((h | ⟨i, hi, h⟩) | ⟨h1, h2⟩)
        · exact .inl h
        · exact .inr ⟨i, by omega, h⟩
        · exact .inr ⟨k, by omega, hb, h1, h2⟩
      · rintro (h2 | ⟨i, hi, h2⟩)
        · exact .inl (.inl h2)
        · rcases Nat.lt_or_ge i k with h1 | h1
          · exact .inl (.inr ⟨i, h1, h2⟩)
          · obtain rfl : i = k := by omega
            exact .inr ⟨h2.2.1, h2.2.2⟩
    · rename_i hb
      rw [ih]
      constructor
      · rintro (h | ⟨i, hi, h⟩)
        · exact .inl h
        · exact .inr ⟨i, by omega, h⟩
      · rintro (h2 | ⟨i, hi, h2⟩)
        · exact .inl h2
        · rcases Nat.lt_or_ge i k with h1 | h1
          · exact .inr ⟨i, h1, h2⟩
          · obtain rfl : i = k := by omega
            exact absurd h2.1 hb
/-- The first places of a book are nobody's but these: each pair's digest is one of the book's. -/
def Bd (L : List (List Int)) (SL : List (Int × Int)) : Prop := ∀ p ∈ SL, p.2 < (L.length : Int)
def Sg (L : List (List Int)) (SL : List (Int × Int)) (who : Int) (xs : List Int) : Prop := xs ∈ L ∧ (who, (L.idxOf xs : Int)) ∈ SL
theorem digL_mem (L : List (List Int)) (xs : List Int) : xs ∈ digL L xs := by
  unfold digL; split <;> simp_all
theorem digL_idx (L : List (List Int)) (xs : List Int) : (digL L xs).idxOf xs = digI L xs := by
  unfold digL digI
  by_cases h : xs ∈ L
  · rw [if_pos h, if_pos h]
  · rw [if_neg h, if_neg h, List.idxOf_append, if_neg h]
    simp
theorem digL_old {L : List (List Int)} {xs : List Int} (ys : List Int) (h : xs ∈ L) : xs ∈ digL L ys ∧ (digL L ys).idxOf xs = L.idxOf xs := by
  unfold digL
  split
  · exact ⟨h, rfl⟩
  · exact ⟨List.mem_append_left _ h, by rw [List.idxOf_append, if_pos h]⟩
theorem digL_pre (L : List (List Int)) (xs : List Int) : L.length ≤ (digL L xs).length := by
  unfold digL; split <;> simp
theorem Bd.dig {L : List (List Int)} {SL : List (Int × Int)} (h : Bd L SL) (xs : List Int) : Bd (digL L xs) SL := fun p hp => by
  have := h p hp
  have := digL_pre L xs
  omega
theorem digI_lt (L : List (List Int)) (xs : List Int) : digI L xs < (digL L xs).length := by
  rw [← digL_idx]
  exact List.idxOf_lt_length_of_mem (digL_mem L xs)
theorem Sg.dig_iff {L : List (List Int)} {SL : List (Int × Int)} (h : Bd L SL) (ys : List Int) (who : Int) (xs : List Int) : Sg (digL L ys) SL who xs ↔ Sg L SL who xs := by
  by_cases hx : xs ∈ L
  · obtain ⟨h1, h2⟩ := digL_old ys hx
    unfold Sg
    rw [h2]
    simp [h1, hx]
  · refine ⟨fun ⟨h1, h2⟩ => ?_, fun h1 => absurd h1.1 hx⟩
    exfalso
    unfold digL at h1 h2
    split at h1
    · exact hx h1
    · rename_i hy
      rw [if_neg hy, List.idxOf_append, if_neg hx] at h2
      have := h _ h2
      simp at this
      omega
/-- What a digest's signers are, when a group's mask signs a text's digest. -/
theorem Sg.sign_iff {L : List (List Int)} {SL : List (Int × Int)} {gr mask : Int} {ys : List Int} (hl : SL.length + 10 ≤ 131072) (hnd : ys ∈ L) (who : Int) (xs : List Int) :
    Sg L (signTo gr mask (L.idxOf ys : Nat) SL 10) who xs ↔ Sg L SL who xs ∨ (xs = ys ∧ ∃ i, i < 10 ∧ bitOn mask i = true ∧ signBad (memberOf gr i) (L.idxOf ys : Nat) = false ∧ who = memberOf gr i) := by
  unfold Sg
  rw [mem_signTo 10 hl]
  constructor
  · rintro ⟨h1, h2 | ⟨i, hi, hb, hs, he⟩⟩
    · exact .inl ⟨h1, h2⟩
    · obtain ⟨e1, e2⟩ := Prod.mk.inj he
      refine .inr ⟨?_, i, hi, hb, hs, e1⟩
      have e3 : L.idxOf xs = L.idxOf ys := by omega
      have l1 := List.idxOf_lt_length_of_mem h1
      have g1 := List.getElem_idxOf l1
      have l2 := List.idxOf_lt_length_of_mem hnd
      have g2 := List.getElem_idxOf l2
      rw [← g1, ← g2]
      simp [e3]
  · rintro (⟨h1, h2⟩ | ⟨rfl, i, hi, hb, hs, rfl⟩)
    · exact ⟨h1, .inl h2⟩
    · exact ⟨hnd, .inr ⟨i, hi, hb, hs, rfl⟩⟩
theorem Bd.sign {L : List (List Int)} {SL : List (Int × Int)} (h : Bd L SL) {gr mask : Int} {d : Nat} (hd : d < L.length) (hl : SL.length + 10 ≤ 131072) : Bd L (signTo gr mask (d : Nat) SL 10) := fun p hp => by
  rcases (mem_signTo 10 hl).1 hp with h1 | ⟨i, _, _, _, rfl⟩
  · exact h p h1
  · show (d : Int) < _
    omega
/-! Texts of decisions. -/
theorem num8_inj {a b : Int} (h : num8 a = num8 b) (ha : 0 ≤ a) (hb : 0 ≤ b) (ha2 : a < 18446744073709551616) (hb2 : b < 18446744073709551616) : a = b := by
  have e := fun (j : Nat) => congrArg (fun l : List Int => l[j]?) h
  have e0 := e 0
  have e1 := e 1
  have e2 := e 2
  have e3 := e 3
  have e4 := e 4
  have e5 := e 5
  have e6 := e 6
  have e7 := e 7
  simp [num8] at e0 e1 e2 e3 e4 e5 e6 e7
  omega
theorem kindS_inj {k d k' d' : Int} {y y' : Bool} (h : sayB (kindS k d y) = sayB (kindS k' d' y')) (h1 : OkSay (kindS k d y)) (h2 : OkSay (kindS k' d' y')) : k = k' ∧ d = d' ∧ y = y' := by
  unfold sayB kindS at h
  simp only [List.append_left_inj] at h
  unfold OkSay kindS at h1 h2
  dsimp only at h1 h2
  obtain ⟨h3, h4⟩ := List.append_inj' h (by rw [num8_length, num8_length])
  obtain ⟨h5, h6⟩ := List.append_inj' h3 (by rw [num8_length, num8_length])
  refine ⟨num8_inj h5 (by omega) (by omega) (by omega) (by omega), num8_inj h6 (by omega) (by omega) (by omega) (by omega), ?_⟩
  have := num8_inj h4 (by unfold yesI; split <;> omega) (by unfold yesI; split <;> omega) (by unfold yesI; split <;> omega) (by unfold yesI; split <;> omega)
  unfold yesI at this
  cases y <;> cases y' <;> simp_all
structure VoteD where
  gr : Int
  mask : Int
  yes : Bool
  kind : Int
def hit (v : VoteD) (yes : Bool) (i : Nat) : Bool := decide (v.gr = 0) && decide (v.kind = 3) && (v.yes == yes) && bitOn v.mask i
theorem okDec {d : Int} (h0 : 0 ≤ d) (h1 : d ≤ 2147483647) (yes : Bool) : OkSay (decS d yes) := by
  unfold OkSay decS
  dsimp only
  refine ⟨by omega, by omega, by omega, by omega, by omega, by omega, by decide, by decide, by omega, by omega, by omega, by omega, by omega, by omega⟩
theorem member_zero {gr : Int} {j i : Nat} (hj : j < 10) (hi : i < 10) (h : (100 : Int) + i = memberOf gr j) : gr = 0 ∧ j = i := by
  unfold memberOf at h
  split at h <;> omega
theorem member_at (i : Nat) (hi : i < 10) : memberOf 0 i = 100 + i := by
  unfold memberOf
  rw [if_neg (by omega)]
  omega
theorem member_good {i : Nat} (hi : i < 10) {d : Int} (hd : 0 ≤ d) : signBad (memberOf 0 i) d = false := by
  rw [member_at i hi]
  unfold signBad clientOf groupOf
  simp only [decide_eq_false_iff_not]
  rw [if_pos (by omega), if_neg (by omega)]
  omega
/-- A book and seals in which these votes on the transaction of the text xs, whose digest is d, were signed. -/
structure Pl (L : List (List Int)) (SL : List (Int × Int)) (xs : List Int) (d : Int) (vs : List VoteD) : Prop where
  bd : Bd L SL
  mem : xs ∈ L
  idx : (L.idxOf xs : Int) = d
  lo : 0 ≤ d
  hi : d ≤ 2147483647
  sg : ∀ (yes : Bool) (i : Nat), i < 10 → (Sg L SL (100 + (i : Int)) (sayB (decS d yes)) ↔ vs.any (fun v => hit v yes i) = true)
  other : ∀ e, 0 ≤ e → e ≤ 2147483647 → e ≠ d → ∀ (yes : Bool) (i : Nat), i < 10 → ¬ Sg L SL (100 + (i : Int)) (sayB (decS e yes))
section
variable {L : List (List Int)} {SL : List (Int × Int)} {xs : List Int} {d : Int} {vs : List VoteD}
theorem Pl.start (L : List (List Int)) (xs : List Int) (hL : L.length ≤ 2147483647) : Pl (digL L xs) [] xs (digI L xs : Nat) [] where
  bd := fun p hp => by cases hp
  mem := digL_mem L xs
  idx := by rw [digL_idx]
  lo := by omega
  hi := by
    have : digI L xs ≤ L.length := by
      unfold digI
      split
      · exact List.idxOf_le_length
      · exact Nat.le_refl _
    omega
  sg := fun yes i _ => ⟨fun h => (by cases h.2), fun h => (by simp at h)⟩
  other := fun e _ _ _ yes i _ h => (by cases h.2)
theorem Pl.dig (h : Pl L SL xs d vs) (ys : List Int) : Pl (digL L ys) SL xs d vs where
  bd := h.bd.dig ys
  mem := (digL_old ys h.mem).1
  idx := by rw [(digL_old ys h.mem).2]; exact h.idx
  lo := h.lo
  hi := h.hi
  sg := fun yes i hi => by rw [Sg.dig_iff h.bd]; exact h.sg yes i hi
  other := fun e h0 h1 he yes i hi => by rw [Sg.dig_iff h.bd]; exact h.other e h0 h1 he yes i hi
theorem Pl.say (h : Pl L SL xs d vs) (s : SayD) : Pl (sayL L s) SL xs d vs := by
  unfold sayL
  split
  · exact h.dig _
  · exact h
theorem Pl.vote (h : Pl L SL xs d vs) (hl : SL.length + 10 ≤ 131072) (v : VoteD) : Pl (sayL L (kindS v.kind d v.yes)) (voteS v.kind d v.yes v.gr v.mask L SL) xs d (vs ++ [v]) := by
  unfold sayL voteS
  by_cases hok : OkSay (kindS v.kind d v.yes)
  · rw [if_pos hok, if_pos hok]
    have h1 := h.dig (sayB (kindS v.kind d v.yes))
    have hm := digL_mem L (sayB (kindS v.kind d v.yes))
    have hidx := digL_idx L (sayB (kindS v.kind d v.yes))
    rw [← hidx]
    have hlt := List.idxOf_lt_length_of_mem hm
    refine ⟨h1.bd.sign hlt hl, h1.mem, h1.idx, h1.lo, h1.hi, fun yes i hi => ?_, fun e h0 h2 he yes i hi => ?_⟩
    · rw [Sg.sign_iff hl hm, h1.sg yes i hi, List.any_append, Bool.or_eq_true]
      refine or_congr Iff.rfl ?_
      simp only [List.any_cons, List.any_nil, Bool.or_false, hit, Bool.and_eq_true, decide_eq_true_eq, beq_iff_eq]
      constructor
      · rintro ⟨e1, j, hj, hb, _, e2⟩
        obtain ⟨e3, rfl⟩ := member_zero hj hi e2
        obtain ⟨e4, _, e5⟩ := kindS_inj (k := 3) (d := d) (y := yes) e1 (okDec h.lo h.hi yes) hok
        exact ⟨⟨⟨e3, e4.symm⟩, e5.symm⟩, hb⟩
      · rintro ⟨⟨⟨e1, e2⟩, e3⟩, hb⟩
        refine ⟨by rw [e2, e3]; rfl, i, hi, hb, ?_, ?_⟩
        · rw [e1]; exact member_good hi (by omega)
        · rw [e1, member_at i hi]
    · rw [Sg.sign_iff hl hm]
      rintro (h3 | ⟨e1, j, hj, hb, _, e2⟩)
      · exact h1.other e h0 h2 he yes i hi h3
      · exact he (kindS_inj (k := 3) (d := e) (y := yes) e1 (okDec h0 h2 yes) hok).2.1
  · rw [if_neg hok, if_neg hok]
    have hno : ∀ yes i, hit v yes i = false := fun yes i => by
      by_cases hk : v.kind = 3
      · exact absurd (by rw [hk]; exact okDec h.lo h.hi v.yes) hok
      · simp [hit, hk]
    exact ⟨h.bd, h.mem, h.idx, h.lo, h.hi, fun yes i hi => by rw [h.sg yes i hi]; simp [hno], h.other⟩
def cnt (vs : List VoteD) (yes : Bool) : Nat := ((List.range 10).filter fun i => vs.any fun v => hit v yes i).length
def outP (k : Int) (vs : List VoteD) : Int := if k < (cnt vs true : Nat) then 3 else if k < (cnt vs false : Nat) then 4 else 0
theorem Sg.dig_mem (h : Bd L SL) (who : Int) (ys : List Int) : (who, (digI L ys : Int)) ∈ SL ↔ Sg L SL who ys := by
  unfold digI
  by_cases hy : ys ∈ L
  · rw [if_pos hy]; simp [Sg, hy]
  · rw [if_neg hy]
    refine ⟨fun hm => ?_, fun hs => absurd hs.1 hy⟩
    have := h _ hm
    simp at this
theorem saidN_eq (h : Bd L SL) {e : Int} (h0 : 0 ≤ e) (h1 : e ≤ 2147483647) (yes : Bool) (p : Nat → Bool) (hp : ∀ i : Nat, i < 10 → (Sg L SL (100 + (i : Int)) (sayB (decS e yes)) ↔ p i = true)) : saidN 0 L SL (decS e yes) = ((List.range 10).filter p).length := by
  unfold saidN sayI
  rw [if_pos (okDec h0 h1 yes), if_pos (okDec h0 h1 yes), whoTo]
  congr 1
  refine List.filter_congr fun i hi => ?_
  have hi' := List.mem_range.1 hi
  rw [member_at i hi', Bool.eq_iff_iff, decide_eq_true_iff, Sg.dig_mem h, ← hp i hi']
  exact ⟨fun h => h.2, fun h => ⟨by omega, h⟩⟩
theorem Pl.said (h : Pl L SL xs d vs) (yes : Bool) : saidN 0 L SL (decS d yes) = cnt vs yes :=
  saidN_eq h.bd h.lo h.hi yes _ (fun i hi => h.sg yes i hi)
theorem Pl.said_other (h : Pl L SL xs d vs) {e : Int} (h0 : 0 ≤ e) (h1 : e ≤ 2147483647) (he : e ≠ d) (yes : Bool) : saidN 0 L SL (decS e yes) = 0 := by
  rw [saidN_eq h.bd h0 h1 yes (fun _ => false) (fun i hi => ⟨fun hs => absurd hs (h.other e h0 h1 he yes i hi), fun hs => by cases hs⟩)]
  decide
theorem Pl.dig_self (h : Pl L SL xs d vs) : digL L xs = L ∧ (digI L xs : Int) = d := by
  unfold digL digI
  rw [if_pos h.mem, if_pos h.mem]
  exact ⟨rfl, h.idx⟩
theorem Pl.out (h : Pl L SL xs d vs) (k : Int) : outI k L SL xs = outP k vs := by
  obtain ⟨e1, e2⟩ := h.dig_self
  unfold outI outP
  rw [e1, e2, h.said true, (h.say (decS d true)).said false]
theorem Pl.outStep (h : Pl L SL xs d vs) (k : Int) (ys : List Int) : Pl (outL k L SL ys) SL xs d vs := by
  unfold outL
  split
  · exact (h.dig _).say _
  · exact ((h.dig _).say _).say _
theorem digI_le (L : List (List Int)) (ys : List Int) : digI L ys ≤ L.length := by
  unfold digI
  split
  · exact List.idxOf_le_length
  · exact Nat.le_refl _
theorem Pl.out_other (h : Pl L SL xs d vs) {k : Int} (hk : 0 ≤ k) {ys : List Int} (hy : (digI L ys : Int) ≠ d) (hL : L.length ≤ 2147483647) : outI k L SL ys = 0 := by
  have hle := digI_le L ys
  unfold outI
  rw [(h.dig ys).said_other (by omega) (by omega) hy, ((h.dig ys).say _).said_other (by omega) (by omega) hy]
  rw [if_neg (by omega), if_neg (by omega)]
end
theorem filter_le {α : Type} {p q : α → Bool} : ∀ (l : List α), (∀ x ∈ l, p x = true → q x = true) → (l.filter p).length ≤ (l.filter q).length
  | [], _ => Nat.le_refl _
  | x :: l, h => by
    have ih := filter_le l (fun y hy => h y (List.mem_cons_of_mem _ hy))
    have hx := h x List.mem_cons_self
    simp only [List.filter_cons]
    split
    · rename_i hp
      rw [if_pos (hx hp)]
      simp only [List.length_cons]
      omega
    · split
      · simp only [List.length_cons]; omega
      · exact ih
theorem cnt_mono (vs ws : List VoteD) (yes : Bool) : cnt vs yes ≤ cnt (vs ++ ws) yes :=
  filter_le _ (fun i _ h => by rw [List.any_append, h]; rfl)
theorem outP_nil {k : Int} (hk : 0 ≤ k) : outP k [] = 0 := by
  have e : ∀ yes, cnt [] yes = 0 := fun yes => by cases yes <;> decide
  unfold outP
  rw [e, e, if_neg (by omega), if_neg (by omega)]
theorem outP_stays (k : Int) (vs ws : List VoteD) : (outP k vs = 3 → outP k (vs ++ ws) = 3) ∧ (outP k vs ≠ 0 → outP k (vs ++ ws) ≠ 0) := by
  have h1 := cnt_mono vs ws true
  have h2 := cnt_mono vs ws false
  unfold outP
  constructor
  · intro h
    split at h
    · rw [if_pos (by omega)]
    · split at h <;> cases h
  · intro h
    split at h
    · rw [if_pos (by omega)]; decide
    · split at h
      · split
        · decide
        · rw [if_pos (by omega)]; decide
      · exact absurd rfl h
/-! The masks of the votes, joined. -/
def maskP (yes : Bool) : List VoteD → Int → Int
  | [], m => m
  | v :: vs, m => maskP yes vs (if v.gr = 0 ∧ v.kind = 3 ∧ v.yes = yes then bits .or .i64 m (bits .and .i64 v.mask 1023) else m)
theorem maskP_append (yes : Bool) : ∀ (vs ws : List VoteD) (m : Int), maskP yes (vs ++ ws) m = maskP yes ws (maskP yes vs m)
  | [], _, _ => rfl
  | v :: vs, ws, m => by simp only [List.cons_append, maskP]; exact maskP_append yes vs ws _
theorem bitOn_maskP (yes : Bool) {i : Nat} (hi : i < 10) : ∀ (vs : List VoteD) (m : Int), bitOn (maskP yes vs m) i = (bitOn m i || vs.any fun v => hit v yes i)
  | [], m => by simp [maskP]
  | v :: vs, m => by
    rw [maskP, bitOn_maskP yes hi vs, List.any_cons, ← Bool.or_assoc]
    congr 1
    by_cases h : v.gr = 0 ∧ v.kind = 3 ∧ v.yes = yes
    · rw [if_pos h, bitOn_or _ _ _ hi, bitOn_and1023 _ _ hi]
      simp [hit, h.1, h.2.1, h.2.2]
    · rw [if_neg h]
      have : hit v yes i = false := by
        unfold hit
        simp only [Bool.and_eq_false_iff, decide_eq_false_iff_not, beq_eq_false_iff_ne]
        by_cases h1 : v.gr = 0
        · by_cases h2 : v.kind = 3
          · exact .inl (.inr fun h3 => h ⟨h1, h2, h3⟩)
          · exact .inl (.inl (.inr h2))
        · exact .inl (.inl (.inl h1))
      simp [this]
/-- How many of the first k places of a mask are set. -/
def popTo (m : Int) : Nat → Int
  | 0 => 0
  | k + 1 => popTo m k + bits .and .i64 (m / 2 ^ k) 1
theorem popTo_le (m : Int) : ∀ k, 0 ≤ popTo m k ∧ popTo m k ≤ k
  | 0 => by simp [popTo]
  | k + 1 => by
    have := popTo_le m k
    rw [popTo, bits_and_one]
    omega
theorem popTo_eq (m : Int) : ∀ k, popTo m k = (((List.range k).filter fun i => bitOn m i).length : Int)
  | 0 => by simp [popTo]
  | k + 1 => by
    rw [popTo, popTo_eq m k, bitOn_int, List.range_succ, List.filter_append, List.length_append]
    by_cases h : bitOn m k = true
    · simp [h]
    · simp [h]
theorem pop_cnt (yes : Bool) (vs : List VoteD) : popTo (maskP yes vs 0) 10 = (cnt vs yes : Int) := by
  rw [popTo_eq, cnt]
  congr 2
  refine List.filter_congr fun i hi => ?_
  rw [bitOn_maskP yes (List.mem_range.1 hi), bitOn_zero, Bool.false_or]
/-! Transactions alike have one text. -/
theorem bytesOf_inj {s t : ByteArray} (h : bytesOf s = bytesOf t) : s = t := by
  have := congrArg strOfNums h
  rwa [strOf_bytesOf, strOf_bytesOf] at this
theorem textB_inj {s t : List Int} {a b : List Int} (h : textB s ++ a = textB t ++ b) (hs : s.length < 4294967296) (ht : t.length < 4294967296) : s = t ∧ a = b := by
  unfold textB at h
  rw [List.append_assoc, List.append_assoc] at h
  obtain ⟨h1, h2⟩ := List.append_inj h (by simp [count4])
  have hl : s.length = t.length := by
    simp only [count4, List.cons.injEq, and_true] at h1
    omega
  exact List.append_inj h2 hl
theorem num8_pre {m n : Int} {a b : List Int} (h : num8 m ++ a = num8 n ++ b) (hm : 0 ≤ m) (hn : 0 ≤ n) (hm2 : m < 18446744073709551616) (hn2 : n < 18446744073709551616) : m = n ∧ a = b := by
  obtain ⟨h1, h2⟩ := List.append_inj h (by rw [num8_length, num8_length])
  exact ⟨num8_inj h1 hm hn hm2 hn2, h2⟩
theorem flat_inj {α : Type} {f : α → List Int} {g : α → Prop} (hf : ∀ x y a b, g x → g y → f x ++ a = f y ++ b → x = y ∧ a = b) : ∀ (l m : List α) (a b : List Int), (∀ x ∈ l, g x) → (∀ x ∈ m, g x) → l.length = m.length → l.flatMap f ++ a = m.flatMap f ++ b → l = m ∧ a = b
  | [], [], a, b, _, _, _, h => ⟨rfl, by simpa using h⟩
  | [], _ :: _, _, _, _, _, h, _ => by simp at h
  | _ :: _, [], _, _, _, _, h, _ => by simp at h
  | x :: l, y :: m, a, b, hl, hm, he, h => by
    rw [List.flatMap_cons, List.flatMap_cons, List.append_assoc, List.append_assoc] at h
    obtain ⟨h1, h2⟩ := hf x y _ _ (hl x List.mem_cons_self) (hm y List.mem_cons_self) h
    obtain ⟨h3, h4⟩ := flat_inj hf l m a b (fun z hz => hl z (List.mem_cons_of_mem _ hz)) (fun z hz => hm z (List.mem_cons_of_mem _ hz)) (by simpa using he) h2
    exact ⟨by rw [h1, h3], h4⟩
theorem txnB_inj {c n c' n' : Int} {R R' : List (ByteArray × Int)} {W W' : List (ByteArray × ByteArray)} (h1 : TOk c n R W) (h2 : TOk c' n' R' W') (h : txnB c n R W = txnB c' n' R' W') : c = c' ∧ n = n' ∧ R = R' ∧ W = W' := by
  obtain ⟨a1, a2, a3, a4, _, a6, a7⟩ := h1
  obtain ⟨b1, b2, b3, b4, _, b6, b7⟩ := h2
  have lR := rises_len a6
  have lW := rises_len a7
  have lR' := rises_len b6
  have lW' := rises_len b7
  unfold txnB at h
  simp only [List.append_assoc] at h
  obtain ⟨e1, h⟩ := num8_pre h (by omega) (by omega) (by omega) (by omega)
  obtain ⟨e2, h⟩ := num8_pre h (by omega) (by omega) (by omega) (by omega)
  obtain ⟨e3, h⟩ := num8_pre h (by omega) (by omega) (by omega) (by omega)
  obtain ⟨e4, h⟩ := flat_inj (g := fun x : ByteArray × Int => x.1.size ≤ 16 ∧ readOk x = true) (fun x y a b hx hy h => by
    unfold readB at h
    rw [List.append_assoc, List.append_assoc] at h
    obtain ⟨q1, q2⟩ := textB_inj h (by rw [bytesOf_length]; omega) (by rw [bytesOf_length]; omega)
    have r1 := hx.2
    have r2 := hy.2
    simp only [readOk, Bool.and_eq_true, decide_eq_true_eq] at r1 r2
    obtain ⟨q3, q4⟩ := num8_pre q2 (by omega) (by omega) (by omega) (by omega)
    exact ⟨Prod.ext (bytesOf_inj q1) q3, q4⟩) R R' _ _ (rises_at a6) (rises_at b6) (by omega) h
  obtain ⟨e5, h⟩ := num8_pre h (by omega) (by omega) (by omega) (by omega)
  have h' : W.flatMap writeB ++ [] = W'.flatMap writeB ++ [] := by rw [List.append_nil, List.append_nil]; exact h
  obtain ⟨e6, _⟩ := flat_inj (g := fun x : ByteArray × ByteArray => x.1.size ≤ 16 ∧ x.2.size ≤ 64) (fun x y a b hx hy h => by
    unfold writeB at h
    rw [List.append_assoc, List.append_assoc] at h
    obtain ⟨q1, q2⟩ := textB_inj h (by rw [bytesOf_length]; omega) (by rw [bytesOf_length]; omega)
    obtain ⟨q3, q4⟩ := textB_inj q2 (by rw [bytesOf_length]; omega) (by rw [bytesOf_length]; omega)
    exact ⟨Prod.ext (bytesOf_inj q1) (bytesOf_inj q3), q4⟩) W W' _ _ (write_sizes a7) (write_sizes b7) (by omega) h'
  exact ⟨e1, e2, e4, e6⟩
end Go.Proofs.YtcfanacfjcgnbaaGreatDoor
