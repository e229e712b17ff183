/- Parts of the proof, joined. -/
import Derived.ProofKit
import Derived.OpenShut
import Derived.ChangeOld
import Derived.Deep.Slices
import Derived.Deep.Fields
import Derived.Lib.SmallJoins
import Derived.Test.YtmkdhhhoodeemaaGreatFewProofGa
import Derived.Test.YtmkdhhhoodeemaaGreatFewProofGb
import Derived.Test.YtmkdhhhoodeemaaGreatFewProofGc
import Derived.Test.YtmkdhhhoodeemaaGreatFewProofGd
import Derived.Test.YtmkdhhhoodeemaaGreatFewProofGe
import Derived.Test.YtmkdhhhoodeemaaGreatFewProofGf
set_option linter.unusedVariables false
set_option linter.unusedSimpArgs false
/- Arguments opened: rows of structs, a transaction, votes, what is said. -/
namespace Go.Proofs.YtmkdhhhoodeemaaGreat
open Go Go.RowKit Go.ChangeShapes Go.WideShapes Go.Deep Go.Joins
section
variable {H : Type} {enc : TypeId × Value → H} {P : Program} {w : World} {base : Nat} {spare : Nat → Bool} {held : Bool}
set_option maxRecDepth 100000 in
theorem open_slice_rows {t e : TypeId} {fs : Array Field} {fuel : Nat} {cs : List Value} {x : DataW H × List MemPlace} (ht : P.underlying t = some (.slice e)) (he : P.underlying e = some (.struct fs))
    (hone : oneCellFields P fs = true) (hC : P.cellsOf e = fs.size) (h : DataW.trod enc P w base spare held fuel t cs = some x) :
    (cs = [.slice none 0 0] ∧ x = (.nil, [])) ∨
    ∃ (a : Addr) (len cap m : Nat), cs = [.slice (some a) len cap] ∧ len ≤ m ∧ len ≤ maxLen ∧
      ∀ i, i < m → ∃ (ys : List (DataW H × List MemPlace)) (n : Nat),
        ∀ (j : Nat) (f : Field), fs[j]? = some f → ∃ (v : Value) (y : DataW H × List MemPlace), w.cell? (a.add (i * fs.size + j)) = some v ∧ ys[j]? = some y ∧ DataW.trod enc P w base spare held n f.type [v] = some y := by
  rcases open_slice ht h with h0 | ⟨a, len, cap, m, n, D, Pl, hcs, hb, hl, hm, hmm, hx, hi⟩
  · exact .inl h0
  · refine .inr ⟨a, len, cap, m, hcs, by rw [hmm]; split <;> omega, by omega, fun i him => ?_⟩
    obtain ⟨cs', hc, ht'⟩ := hi i him
    rw [hC] at hc
    obtain ⟨ys, n', hn', hy, hlen, hyl, hf⟩ := DataW.trod_struct he ht'
    obtain ⟨_, hcl, hat⟩ := World.cells?_some hc
    refine ⟨ys, n', fun j f hj => ?_⟩
    obtain ⟨ho, hk⟩ := hone_of hone j f hj
    have hjl : j < fs.size := (Array.getElem?_eq_some_iff.1 hj).1
    have hcell := hat j hjl
    have hv : cs'[j]? = some (cs'[j]'(by omega)) := List.getElem?_eq_getElem (by omega)
    have h1 := hf j f hj
    rw [ho, hk] at h1
    have hone' : (cs'.drop j).take 1 = [cs'[j]'(by omega)] := by
      rw [List.drop_eq_getElem_cons (by omega)]
      rfl
    rw [hone'] at h1
    have hys : ys[j]? = some (ys[j]'(by omega)) := List.getElem?_eq_getElem (by omega)
    refine ⟨_, _, ?_, hys, h1.trans hys⟩
    rw [← Go.Deep.add_add, hcell, hv]
/-- A row of things that lie k cells apart, each as R says. -/
theorem open_rows {α : Type} [Inhabited α] {R : (Nat → Option Value) → α → Prop} {a : Addr} {len k : Nat} (h : ∀ i, i < len → ∃ s : α, R (fun j => w.cell? (a.add (i * k + j))) s) :
    ∃ l : List α, l.length = len ∧ ∀ (i : Nat) s, l[i]? = some s → R (fun j => w.cell? (a.add (i * k + j))) s := by
  obtain ⟨s, hs⟩ : ∃ s : Nat → α, ∀ i, i < len → R (fun j => w.cell? (a.add (i * k + j))) (s i) :=
    ⟨fun i => if h' : i < len then (h i h').choose else default, fun i h' => by simp only [dif_pos h']; exact (h i h').choose_spec⟩
  refine ⟨(List.range len).map s, by simp, fun i x hx => ?_⟩
  rw [List.getElem?_map] at hx
  obtain ⟨q, hq, rfl⟩ := Option.map_eq_some_iff.1 hx
  obtain ⟨hk, rfl⟩ := List.getElem?_eq_some_iff.1 hq
  simp only [List.length_range] at hk
  simp only [List.getElem_range]
  exact hs i hk
theorem add_in (b o j : Nat) : (⟨b, o, none⟩ : Addr).add j = ⟨b, o + j, none⟩ := by unfold Addr.add; split <;> simp_all
end
section
variable {H : Type} {enc : TypeId × Value → H} {w : World} {base : Nat} {spare : Nat → Bool} {held : Bool}
end
end Go.Proofs.YtmkdhhhoodeemaaGreat

/- Plain law of layer 20: who signed what, by votes; what a client believes of it. -/
namespace Go.Proofs.YtmkdhhhoodeemaaGreat
open Go Go.RowKit
/-! Bits. -/
/-! What is signed. -/
theorem mem_signL {who d : Int} {L : List (Int × Int)} {p : Int × Int} (hl : L.length < 131072) : p ∈ signL who d L ↔ p ∈ L ∨ (signBad who d = false ∧ p = (who, d)) := by
  unfold signL
  by_cases h1 : signBad who d = true
  · rw [if_pos h1]; simp [h1]
  · have h1' : signBad who d = false := by simpa using h1
    rw [if_neg h1]
    by_cases h2 : (who, d) ∈ L
    · rw [if_pos h2]
      constructor
      · exact .inl
      · rintro (h | ⟨_, rfl⟩)
        · exact h
        · exact h2
    · have h3 : ¬ ((L.length : Int) == 131072) = true := by simp; omega
      rw [if_neg h2, if_neg h3]
      simp [h1']
theorem mem_signTo {gr mask d : Int} {SL : List (Int × Int)} {p : Int × Int} : ∀ (k : Nat), SL.length + k ≤ 131072 → (p ∈ signTo gr mask d SL k ↔ p ∈ SL ∨ ∃ i, i < k ∧ bitOn mask i = true ∧ signBad (memberOf gr i) d = false ∧ p = (memberOf gr i, d))
  | 0, _ => by simp [signTo]
  | k + 1, h => by
    have ih := mem_signTo (gr := gr) (mask := mask) (d := d) (SL := SL) (p := p) k (by omega)
    have hl := signTo_len gr mask d SL k
    unfold signTo
    split
    · rename_i hb
      rw [mem_signL (by omega), ih]
      constructor
      · rintro ((h | ⟨i, hi, h⟩) | ⟨h1, h2⟩)
        · exact .inl h
        · exact .inr ⟨i, by omega, h⟩
        · exact .inr ⟨k, by omega, hb, h1, h2⟩
      · rintro (h2 | ⟨i, hi, h2⟩)
        · exact .inl (.inl h2)
        · rcases Nat.lt_or_ge i k with h1 | h1
          · exact .inl (.inr ⟨i, h1, h2⟩)
          · obtain rfl : i = k := by omega
            exact .inr ⟨h2.2.1, h2.2.2⟩
    · rename_i hb
      rw [ih]
      constructor
      · rintro (h | ⟨i, hi, h⟩)
        · exact .inl h
        · exact .inr ⟨i, by omega, h⟩
      · rintro (h2 | ⟨i, hi, h2⟩)
        · exact .inl h2
        · rcases Nat.lt_or_ge i k with h1 | h1
          · exact .inr ⟨i, h1, h2⟩
          · obtain rfl : i = k := by omega
            exact absurd h2.1 hb
/-- The first places of a book are nobody's but these: each pair's digest is one of the book's. -/
def Bd (L : List (List Int)) (SL : List (Int × Int)) : Prop := ∀ p ∈ SL, p.2 < (L.length : Int)
def Sg (L : List (List Int)) (SL : List (Int × Int)) (who : Int) (xs : List Int) : Prop := xs ∈ L ∧ (who, (L.idxOf xs : Int)) ∈ SL
theorem digL_mem (L : List (List Int)) (xs : List Int) : xs ∈ digL L xs := by
  unfold digL; split <;> simp_all
theorem digL_idx (L : List (List Int)) (xs : List Int) : (digL L xs).idxOf xs = digI L xs := by
  unfold digL digI
  by_cases h : xs ∈ L
  · rw [if_pos h, if_pos h]
  · rw [if_neg h, if_neg h, List.idxOf_append, if_neg h]
    simp
theorem digL_old {L : List (List Int)} {xs : List Int} (ys : List Int) (h : xs ∈ L) : xs ∈ digL L ys ∧ (digL L ys).idxOf xs = L.idxOf xs := by
  unfold digL
  split
  · exact ⟨h, rfl⟩
  · exact ⟨List.mem_append_left _ h, by rw [List.idxOf_append, if_pos h]⟩
theorem digL_pre (L : List (List Int)) (xs : List Int) : L.length ≤ (digL L xs).length := by
  unfold digL; split <;> simp
theorem Bd.dig {L : List (List Int)} {SL : List (Int × Int)} (h : Bd L SL) (xs : List Int) : Bd (digL L xs) SL := fun p hp => by
  have := h p hp
  have := digL_pre L xs
  omega
theorem Sg.dig_iff {L : List (List Int)} {SL : List (Int × Int)} (h : Bd L SL) (ys : List Int) (who : Int) (xs : List Int) : Sg (digL L ys) SL who xs ↔ Sg L SL who xs := by
  by_cases hx : xs ∈ L
  · obtain ⟨h1, h2⟩ := digL_old ys hx
    unfold Sg
    rw [h2]
    simp [h1, hx]
  · refine ⟨fun ⟨h1, h2⟩ => ?_, fun h1 => absurd h1.1 hx⟩
    exfalso
    unfold digL at h1 h2
    split at h1
    · exact hx h1
    · rename_i hy
      rw [if_neg hy, List.idxOf_append, if_neg hx] at h2
      have := h _ h2
      simp at this
      omega
/-- What a digest's signers are, when a group's mask signs a text's digest. -/
theorem Sg.sign_iff {L : List (List Int)} {SL : List (Int × Int)} {gr mask : Int} {ys : List Int} (hl : SL.length + 10 ≤ 131072) (hnd : ys ∈ L) (who : Int) (xs : List Int) :
    Sg L (signTo gr mask (L.idxOf ys : Nat) SL 10) who xs ↔ Sg L SL who xs ∨ (xs = ys ∧ ∃ i, i < 10 ∧ bitOn mask i = true ∧ signBad (memberOf gr i) (L.idxOf ys : Nat) = false ∧ who = memberOf gr i) := by
  unfold Sg
  rw [mem_signTo 10 hl]
  constructor
  · rintro ⟨h1, h2 | ⟨i, hi, hb, hs, he⟩⟩
    · exact .inl ⟨h1, h2⟩
    · obtain ⟨e1, e2⟩ := Prod.mk.inj he
      refine .inr ⟨?_, i, hi, hb, hs, e1⟩
      have e3 : L.idxOf xs = L.idxOf ys := by omega
      have l1 := List.idxOf_lt_length_of_mem h1
      have g1 := List.getElem_idxOf l1
      have l2 := List.idxOf_lt_length_of_mem hnd
      have g2 := List.getElem_idxOf l2
      rw [← g1, ← g2]
      simp [e3]
  · rintro (⟨h1, h2⟩ | ⟨rfl, i, hi, hb, hs, rfl⟩)
    · exact ⟨h1, .inl h2⟩
    · exact ⟨hnd, .inr ⟨i, hi, hb, hs, rfl⟩⟩
theorem Bd.sign {L : List (List Int)} {SL : List (Int × Int)} (h : Bd L SL) {gr mask : Int} {d : Nat} (hd : d < L.length) (hl : SL.length + 10 ≤ 131072) : Bd L (signTo gr mask (d : Nat) SL 10) := fun p hp => by
  rcases (mem_signTo 10 hl).1 hp with h1 | ⟨i, _, _, _, rfl⟩
  · exact h p h1
  · show (d : Int) < _
    omega
/-! Texts of decisions. -/
theorem num8_inj {a b : Int} (h : num8 a = num8 b) (ha : 0 ≤ a) (hb : 0 ≤ b) (ha2 : a < 18446744073709551616) (hb2 : b < 18446744073709551616) : a = b := by
  have e := fun (j : Nat) => congrArg (fun l : List Int => l[j]?) h
  have e0 := e 0
  have e1 := e 1
  have e2 := e 2
  have e3 := e 3
  have e4 := e 4
  have e5 := e 5
  have e6 := e 6
  have e7 := e 7
  simp [num8] at e0 e1 e2 e3 e4 e5 e6 e7
  omega
theorem kindS_inj {k d k' d' : Int} {y y' : Bool} (h : sayB (kindS k d y) = sayB (kindS k' d' y')) (h1 : OkSay (kindS k d y)) (h2 : OkSay (kindS k' d' y')) : k = k' ∧ d = d' ∧ y = y' := by
  unfold sayB kindS at h
  simp only [List.append_left_inj] at h
  unfold OkSay kindS at h1 h2
  dsimp only at h1 h2
  obtain ⟨h3, h4⟩ := List.append_inj' h (by rw [num8_length, num8_length])
  obtain ⟨h5, h6⟩ := List.append_inj' h3 (by rw [num8_length, num8_length])
  refine ⟨num8_inj h5 (by omega) (by omega) (by omega) (by omega), num8_inj h6 (by omega) (by omega) (by omega) (by omega), ?_⟩
  have := num8_inj h4 (by unfold yesI; split <;> omega) (by unfold yesI; split <;> omega) (by unfold yesI; split <;> omega) (by unfold yesI; split <;> omega)
  unfold yesI at this
  cases y <;> cases y' <;> simp_all
structure VoteD where
  gr : Int
  mask : Int
  yes : Bool
  kind : Int
def hit (v : VoteD) (yes : Bool) (i : Nat) : Bool := decide (v.gr = 0) && decide (v.kind = 3) && (v.yes == yes) && bitOn v.mask i
theorem okDec {d : Int} (h0 : 0 ≤ d) (h1 : d ≤ 2147483647) (yes : Bool) : OkSay (decS d yes) := by
  unfold OkSay decS
  dsimp only
  refine ⟨by omega, by omega, by omega, by omega, by omega, by omega, by decide, by decide, by omega, by omega, by omega, by omega, by omega, by omega⟩
theorem member_zero {gr : Int} {j i : Nat} (hj : j < 10) (hi : i < 10) (h : (100 : Int) + i = memberOf gr j) : gr = 0 ∧ j = i := by
  unfold memberOf at h
  split at h <;> omega
theorem member_at (i : Nat) (hi : i < 10) : memberOf 0 i = 100 + i := by
  unfold memberOf
  rw [if_neg (by omega)]
  omega
theorem member_good {i : Nat} (hi : i < 10) {d : Int} (hd : 0 ≤ d) : signBad (memberOf 0 i) d = false := by
  rw [member_at i hi]
  unfold signBad clientOf groupOf
  simp only [decide_eq_false_iff_not]
  rw [if_pos (by omega), if_neg (by omega)]
  omega
/-- A book and seals in which these votes on the transaction of the text xs, whose digest is d, were signed. -/
structure Pl (L : List (List Int)) (SL : List (Int × Int)) (xs : List Int) (d : Int) (vs : List VoteD) : Prop where
  bd : Bd L SL
  mem : xs ∈ L
  idx : (L.idxOf xs : Int) = d
  lo : 0 ≤ d
  hi : d ≤ 2147483647
  sg : ∀ (yes : Bool) (i : Nat), i < 10 → (Sg L SL (100 + (i : Int)) (sayB (decS d yes)) ↔ vs.any (fun v => hit v yes i) = true)
  other : ∀ e, 0 ≤ e → e ≤ 2147483647 → e ≠ d → ∀ (yes : Bool) (i : Nat), i < 10 → ¬ Sg L SL (100 + (i : Int)) (sayB (decS e yes))
section
variable {L : List (List Int)} {SL : List (Int × Int)} {xs : List Int} {d : Int} {vs : List VoteD}
theorem Pl.start (L : List (List Int)) (xs : List Int) (hL : L.length ≤ 2147483647) : Pl (digL L xs) [] xs (digI L xs : Nat) [] where
  bd := fun p hp => by cases hp
  mem := digL_mem L xs
  idx := by rw [digL_idx]
  lo := by omega
  hi := by
    have : digI L xs ≤ L.length := by
      unfold digI
      split
      · exact List.idxOf_le_length
      · exact Nat.le_refl _
    omega
  sg := fun yes i _ => ⟨fun h => (by cases h.2), fun h => (by simp at h)⟩
  other := fun e _ _ _ yes i _ h => (by cases h.2)
theorem Pl.dig (h : Pl L SL xs d vs) (ys : List Int) : Pl (digL L ys) SL xs d vs where
  bd := h.bd.dig ys
  mem := (digL_old ys h.mem).1
  idx := by rw [(digL_old ys h.mem).2]; exact h.idx
  lo := h.lo
  hi := h.hi
  sg := fun yes i hi => by rw [Sg.dig_iff h.bd]; exact h.sg yes i hi
  other := fun e h0 h1 he yes i hi => by rw [Sg.dig_iff h.bd]; exact h.other e h0 h1 he yes i hi
theorem Pl.say (h : Pl L SL xs d vs) (s : SayD) : Pl (sayL L s) SL xs d vs := by
  unfold sayL
  split
  · exact h.dig _
  · exact h
theorem Pl.vote (h : Pl L SL xs d vs) (hl : SL.length + 10 ≤ 131072) (v : VoteD) : Pl (sayL L (kindS v.kind d v.yes)) (voteS v.kind d v.yes v.gr v.mask L SL) xs d (vs ++ [v]) := by
  unfold sayL voteS
  by_cases hok : OkSay (kindS v.kind d v.yes)
  · rw [if_pos hok, if_pos hok]
    have h1 := h.dig (sayB (kindS v.kind d v.yes))
    have hm := digL_mem L (sayB (kindS v.kind d v.yes))
    have hidx := digL_idx L (sayB (kindS v.kind d v.yes))
    rw [← hidx]
    have hlt := List.idxOf_lt_length_of_mem hm
    refine ⟨h1.bd.sign hlt hl, h1.mem, h1.idx, h1.lo, h1.hi, fun yes i hi => ?_, fun e h0 h2 he yes i hi => ?_⟩
    · rw [Sg.sign_iff hl hm, h1.sg yes i hi, List.any_append, Bool.or_eq_true]
      refine or_congr Iff.rfl ?_
      simp only [List.any_cons, List.any_nil, Bool.or_false, hit, Bool.and_eq_true, decide_eq_true_eq, beq_iff_eq]
      constructor
      · rintro ⟨e1, j, hj, hb, _, e2⟩
        obtain ⟨e3, rfl⟩ := member_zero hj hi e2
        obtain ⟨e4, _, e5⟩ := kindS_inj (k := 3) (d := d) (y := yes) e1 (okDec h.lo h.hi yes) hok
        exact ⟨⟨⟨e3, e4.symm⟩, e5.symm⟩, hb⟩
      · rintro ⟨⟨⟨e1, e2⟩, e3⟩, hb⟩
        refine ⟨by rw [e2, e3]; rfl, i, hi, hb, ?_, ?_⟩
        · rw [e1]; exact member_good hi (by omega)
        · rw [e1, member_at i hi]
    · rw [Sg.sign_iff hl hm]
      rintro (h3 | ⟨e1, j, hj, hb, _, e2⟩)
      · exact h1.other e h0 h2 he yes i hi h3
      · exact he (kindS_inj (k := 3) (d := e) (y := yes) e1 (okDec h0 h2 yes) hok).2.1
  · rw [if_neg hok, if_neg hok]
    have hno : ∀ yes i, hit v yes i = false := fun yes i => by
      by_cases hk : v.kind = 3
      · exact absurd (by rw [hk]; exact okDec h.lo h.hi v.yes) hok
      · simp [hit, hk]
    exact ⟨h.bd, h.mem, h.idx, h.lo, h.hi, fun yes i hi => by rw [h.sg yes i hi]; simp [hno], h.other⟩
def cnt (vs : List VoteD) (yes : Bool) : Nat := ((List.range 10).filter fun i => vs.any fun v => hit v yes i).length
def outP (k : Int) (vs : List VoteD) : Int := if k < (cnt vs true : Nat) then 3 else if k < (cnt vs false : Nat) then 4 else 0
theorem Sg.dig_mem (h : Bd L SL) (who : Int) (ys : List Int) : (who, (digI L ys : Int)) ∈ SL ↔ Sg L SL who ys := by
  unfold digI
  by_cases hy : ys ∈ L
  · rw [if_pos hy]; simp [Sg, hy]
  · rw [if_neg hy]
    refine ⟨fun hm => ?_, fun hs => absurd hs.1 hy⟩
    have := h _ hm
    simp at this
theorem saidN_eq (h : Bd L SL) {e : Int} (h0 : 0 ≤ e) (h1 : e ≤ 2147483647) (yes : Bool) (p : Nat → Bool) (hp : ∀ i : Nat, i < 10 → (Sg L SL (100 + (i : Int)) (sayB (decS e yes)) ↔ p i = true)) : saidN 0 L SL (decS e yes) = ((List.range 10).filter p).length := by
  unfold saidN sayI
  rw [if_pos (okDec h0 h1 yes), if_pos (okDec h0 h1 yes), whoTo]
  congr 1
  refine List.filter_congr fun i hi => ?_
  have hi' := List.mem_range.1 hi
  rw [member_at i hi', Bool.eq_iff_iff, decide_eq_true_iff, Sg.dig_mem h, ← hp i hi']
  exact ⟨fun h => h.2, fun h => ⟨by omega, h⟩⟩
theorem Pl.said (h : Pl L SL xs d vs) (yes : Bool) : saidN 0 L SL (decS d yes) = cnt vs yes :=
  saidN_eq h.bd h.lo h.hi yes _ (fun i hi => h.sg yes i hi)
theorem Pl.dig_self (h : Pl L SL xs d vs) : digL L xs = L ∧ (digI L xs : Int) = d := by
  unfold digL digI
  rw [if_pos h.mem, if_pos h.mem]
  exact ⟨rfl, h.idx⟩
theorem Pl.out (h : Pl L SL xs d vs) (k : Int) : outI k L SL xs = outP k vs := by
  obtain ⟨e1, e2⟩ := h.dig_self
  unfold outI outP
  rw [e1, e2, h.said true, (h.say (decS d true)).said false]
end
/-! The masks of the votes, joined. -/
/-! Transactions alike have one text. -/
theorem bytesOf_inj {s t : ByteArray} (h : bytesOf s = bytesOf t) : s = t := by
  have := congrArg strOfNums h
  rwa [strOf_bytesOf, strOf_bytesOf] at this
theorem textB_inj {s t : List Int} {a b : List Int} (h : textB s ++ a = textB t ++ b) (hs : s.length < 4294967296) (ht : t.length < 4294967296) : s = t ∧ a = b := by
  unfold textB at h
  rw [List.append_assoc, List.append_assoc] at h
  obtain ⟨h1, h2⟩ := List.append_inj h (by simp [count4])
  have hl : s.length = t.length := by
    simp only [count4, List.cons.injEq, and_true] at h1
    omega
  exact List.append_inj h2 hl
end Go.Proofs.YtmkdhhhoodeemaaGreat

/- Arguments opened: votes, what is said. -/
namespace Go.Proofs.YtmkdhhhoodeemaaGreat
open Go Go.RowKit Go.ChangeShapes Go.WideShapes Go.Deep Go.Joins
instance : Inhabited VoteD := ⟨⟨0, 0, false, 0⟩⟩
def VoteRow (w : World) (F : Nat → Prop) (A : Option Addr) (l : List VoteD) : Prop :=
  ∀ k x, l[k]? = some x → ∃ b o, A = some ⟨b, o, none⟩ ∧ F b ∧ w.cell? ⟨b, o + k * 4, none⟩ = some (.int .i64 x.gr) ∧ w.cell? ⟨b, o + k * 4 + 1, none⟩ = some (.int .i64 x.mask) ∧ w.cell? ⟨b, o + k * 4 + 2, none⟩ = some (.bool x.yes) ∧ w.cell? ⟨b, o + k * 4 + 3, none⟩ = some (.int .i64 x.kind)
theorem VoteRow.fr {S F : Nat → Prop} {w w' : World} {A : Option Addr} {l : List VoteD} (h : VoteRow w F A l) (hf : Fr S w w') (hS : ∀ k, F k → ¬ S k) : VoteRow w' F A l := fun k x hx => by
  obtain ⟨b, o, h1, h2, h3, h4, h5, h6⟩ := h k x hx
  exact ⟨b, o, h1, h2, hf.cell_some h3 (hS b h2), hf.cell_some h4 (hS b h2), hf.cell_some h5 (hS b h2), hf.cell_some h6 (hS b h2)⟩
section
variable {H : Type} {enc : TypeId × Value → H} {w : World} {base : Nat} {spare : Nat → Bool} {held : Bool}
set_option maxRecDepth 100000 in
theorem open_say {fuel : Nat} {cs : List Value} {x : DataW H × List MemPlace} (h : DataW.trod enc Tryz.prog w base spare held fuel 23 cs = some x) :
    ∃ s : SayD, cs = [.int .i64 s.kind, .int .i64 s.txn, .bool s.yes, .string s.from_, .string s.to_, .int .i64 s.epoch, .int .i64 s.shard, .int .i64 s.target, .int .i64 s.root] ∧ s.from_.size ≤ 9223372036854775807 ∧ s.to_.size ≤ 9223372036854775807 ∧
      ∀ z, z = s.kind ∨ z = s.txn ∨ z = s.epoch ∨ z = s.shard ∨ z = s.target ∨ z = s.root → -9223372036854775808 ≤ z ∧ z ≤ 9223372036854775807 := by
  obtain ⟨xs, n, _, _, hlen, hxl, hf⟩ := DataW.trod_struct Tryz.underlying23 h
  have hc : (Tryz.prog).cellsOf 23 = 9 := by kernel_rfl
  rw [hc] at hlen
  match cs, hlen, xs, hxl with
  | [a0, a1, a2, a3, a4, a5, a6, a7, a8], _, [x0, x1, x2, x3, x4, x5, x6, x7, x8], _ =>
    have c1 : (Tryz.prog).cellsOf 3 = 1 := by kernel_rfl
    have c2 : (Tryz.prog).cellsOf 2 = 1 := by kernel_rfl
    have c3 : (Tryz.prog).cellsOf 4 = 1 := by kernel_rfl
    have c4 : (Tryz.prog).cellsOf 9 = 1 := by kernel_rfl
    have t0 : DataW.trod enc Tryz.prog w base spare held n 3 (([a0, a1, a2, a3, a4, a5, a6, a7, a8].drop 0).take ((Tryz.prog).cellsOf 3)) = some x0 := hf 0 _ rfl
    rw [c1] at t0
    have t1 : DataW.trod enc Tryz.prog w base spare held n 3 (([a0, a1, a2, a3, a4, a5, a6, a7, a8].drop 1).take ((Tryz.prog).cellsOf 3)) = some x1 := hf 1 _ rfl
    rw [c1] at t1
    have t2 : DataW.trod enc Tryz.prog w base spare held n 4 (([a0, a1, a2, a3, a4, a5, a6, a7, a8].drop 2).take ((Tryz.prog).cellsOf 4)) = some x2 := hf 2 _ rfl
    rw [c3] at t2
    have t3 : DataW.trod enc Tryz.prog w base spare held n 9 (([a0, a1, a2, a3, a4, a5, a6, a7, a8].drop 3).take ((Tryz.prog).cellsOf 9)) = some x3 := hf 3 _ rfl
    rw [c4] at t3
    have t4 : DataW.trod enc Tryz.prog w base spare held n 9 (([a0, a1, a2, a3, a4, a5, a6, a7, a8].drop 4).take ((Tryz.prog).cellsOf 9)) = some x4 := hf 4 _ rfl
    rw [c4] at t4
    have t5 : DataW.trod enc Tryz.prog w base spare held n 2 (([a0, a1, a2, a3, a4, a5, a6, a7, a8].drop 5).take ((Tryz.prog).cellsOf 2)) = some x5 := hf 5 _ rfl
    rw [c2] at t5
    have t6 : DataW.trod enc Tryz.prog w base spare held n 3 (([a0, a1, a2, a3, a4, a5, a6, a7, a8].drop 6).take ((Tryz.prog).cellsOf 3)) = some x6 := hf 6 _ rfl
    rw [c1] at t6
    have t7 : DataW.trod enc Tryz.prog w base spare held n 3 (([a0, a1, a2, a3, a4, a5, a6, a7, a8].drop 7).take ((Tryz.prog).cellsOf 3)) = some x7 := hf 7 _ rfl
    rw [c1] at t7
    have t8 : DataW.trod enc Tryz.prog w base spare held n 3 (([a0, a1, a2, a3, a4, a5, a6, a7, a8].drop 8).take ((Tryz.prog).cellsOf 3)) = some x8 := hf 8 _ rfl
    rw [c1] at t8
    obtain ⟨n0, e0, _, w0⟩ := DataW.trod_int Tryz.underlying3 t0
    obtain ⟨n1, e1, _, w1⟩ := DataW.trod_int Tryz.underlying3 t1
    obtain ⟨n2, e2, _⟩ := DataW.trod_bool Tryz.underlying4 t2
    obtain ⟨n3, e3, _, w3⟩ := DataW.trod_string Tryz.underlying9 t3
    obtain ⟨n4, e4, _, w4⟩ := DataW.trod_string Tryz.underlying9 t4
    obtain ⟨n5, e5, _, w5⟩ := DataW.trod_int Tryz.underlying2 t5
    obtain ⟨n6, e6, _, w6⟩ := DataW.trod_int Tryz.underlying3 t6
    obtain ⟨n7, e7, _, w7⟩ := DataW.trod_int Tryz.underlying3 t7
    obtain ⟨n8, e8, _, w8⟩ := DataW.trod_int Tryz.underlying3 t8
    cases e0
    cases e1
    cases e2
    cases e3
    cases e4
    cases e5
    cases e6
    cases e7
    cases e8
    have q : ∀ z : Int, (Lit.int .i64 z).wf = true → -9223372036854775808 ≤ z ∧ z ≤ 9223372036854775807 := fun z hz => by
      simpa [Lit.wf, IntKind.min, IntKind.max, IntKind.signed, IntKind.bits] using hz
    refine ⟨⟨n0, n1, n2, n3, n4, n5, n6, n7, n8⟩, rfl, by unfold maxLen at w3; dsimp only; omega, by unfold maxLen at w4; dsimp only; omega, ?_⟩
    rintro z (rfl | rfl | rfl | rfl | rfl | rfl)
    · exact q _ w0
    · exact q _ w1
    · exact q _ w5
    · exact q _ w6
    · exact q _ w7
    · exact q _ w8
end
end Go.Proofs.YtmkdhhhoodeemaaGreat

/- A World's book and seals, taken out and put back. -/
namespace Go.Proofs.YtmkdhhhoodeemaaGreat
open Go Go.RowKit
theorem GoodL.say {L : List (List Int)} (h : GoodL L) (s : SayD) : GoodL (sayL L s) := by
  unfold sayL
  split
  · rename_i hok
    obtain ⟨h1, h2, h3⟩ := sayB_length hok
    exact h.dig (by omega)
  · exact h
theorem digL_prefix (L : List (List Int)) (xs : List Int) : L <+: digL L xs := by
  unfold digL
  split
  · exact List.prefix_rfl
  · exact List.prefix_append _ _
theorem sayL_prefix (L : List (List Int)) (s : SayD) : L <+: sayL L s := by
  unfold sayL
  split
  · exact digL_prefix _ _
  · exact List.prefix_rfl
/-- The World's book and seals, and what it is behind a step of theirs. -/
structure Lens (w : World) (lo gw : Nat) (L : List (List Int)) (SL : List (Int × Int)) (nQ : Nat) (g m base : Nat) (v : Value) (gs ms gD gQ : Nat) : Prop where
  blk : Blk w gw 51 #[.pointer (some ⟨g, 0, none⟩), .pointer (some ⟨gs, 0, none⟩), .pointer (some ⟨gD, 0, none⟩), .pointer (some ⟨gQ, 0, none⟩)]
  bs : BS w g m base v L gs ms SL
  base_le : base ≤ w.heap.size
  b : w.cell? ⟨gw, 0, none⟩ = some (.pointer (some ⟨g, 0, none⟩))
  s : w.cell? ⟨gw, 1, none⟩ = some (.pointer (some ⟨gs, 0, none⟩))
  back : ∀ (w' : World) (v' : Value) (L' : List (List Int)) (SL' : List (Int × Int)), BS w' g m base v' L' gs ms SL' → Fr (fun k => k = g ∨ k = m ∨ v.ownBlock = some k ∨ k = ms) w w' → GoodL L' → L <+: L' → WP w' lo gw L' SL' nQ ∧ St lo w w'
theorem WP.open {w : World} {lo gw : Nat} {L : List (List Int)} {SL : List (Int × Int)} {nQ : Nat} (h : WP w lo gw L SL nQ) : ∃ g m base v gs ms gD gQ, Lens w lo gw L SL nQ g m base v gs ms gD gQ := by
  obtain ⟨hg, LD, hp, g, m, base, v, gs, ms, gD, bD, vD, gQ, bQ, vQ, SQ, h, hq⟩ := h
  refine ⟨g, m, base, v, gs, ms, gD, gQ, h.blk, h.bs, h.b_le, h.blk.cell 0, h.blk.cell 1, fun w' v' L' SL' hb hf hg' hp' => ?_⟩
  obtain ⟨h1, h2⟩ := h.step hb hf
  exact ⟨⟨hg', LD, hp.trans hp', g, m, base, v', gs, ms, gD, bD, vD, gQ, bQ, vQ, SQ, h1, hq⟩, h2⟩
theorem Lens.step {w w' : World} {lo gw : Nat} {L L' : List (List Int)} {SL SL' : List (Int × Int)} {nQ : Nat} {g m base : Nat} {v : Value} {gs ms gD gQ : Nat} {r : Value} {e : Ending} (h : Lens w lo gw L SL nQ g m base v gs ms gD gQ) (hb : BSStep w g m base v L' gs ms SL' r e w') (hg : GoodL L') (hp : L <+: L') :
    e = .returned r ∧ WP w' lo gw L' SL' nQ ∧ St lo w w' := by
  obtain ⟨v', he, hb, hf, _⟩ := hb
  exact ⟨he, h.back w' v' L' SL' hb hf hg hp⟩
theorem WP.good {w : World} {lo gw : Nat} {L : List (List Int)} {SL : List (Int × Int)} {nQ : Nat} (h : WP w lo gw L SL nQ) : GoodL L := h.1
/-- A step of the World as a whole. -/
theorem WP.of_step {w w' : World} {lo gw : Nat} {L : List (List Int)} {SL : List (Int × Int)} {nQ : Nat} {r : Value} {e : Ending} (hg : GoodL L) (h : WStep w lo gw L SL L nQ r e w') : e = .returned r ∧ WP w' lo gw L SL nQ ∧ St lo w w' :=
  ⟨h.1, ⟨hg, L, List.prefix_rfl, h.2.1⟩, h.2.2⟩
theorem wp_Digest {w : World} {lo gw : Nat} {L : List (List Int)} {SL : List (Int × Int)} {nQ : Nat} (h : WP w lo gw L SL nQ) (hL : L.length < 5000) {b : Nat} {A : Option Addr} {cap : Nat} {xs : List Int} (hv : Own8 w b (.slice A xs.length cap) xs) (h8 : B8 xs) (hx : xs.length ≤ 65536) :
    Calls Tryz.prog 14 #[.pointer (some ⟨gw, 0, none⟩), .slice A xs.length cap] w (fun e w' => e = .returned (.int .i64 (digI L xs : Nat)) ∧ WP w' lo gw (digL L xs) SL nQ ∧ St lo w w') := by
  obtain ⟨hg, LD, hp, h⟩ := h
  exact (law12_Digest h hg hp hL hv h8 hx).mono fun _ _ hs => WP.of_step (hg.dig hx) hs
theorem wp_Sign {w : World} {lo gw : Nat} {L : List (List Int)} {SL : List (Int × Int)} {nQ : Nat} (h : WP w lo gw L SL nQ) (hn : nQ < 131000) (gr mask d : Int) :
    Calls Tryz.prog 13 #[.pointer (some ⟨gw, 0, none⟩), .int .i64 gr, .int .i64 mask, .int .i64 d] w (fun e w' => ∃ r, e = .returned r ∧ WP w' lo gw L (signTo gr mask d SL 10) (nQ + 10) ∧ St lo w w') := by
  obtain ⟨hg, LD, hp, h⟩ := h
  exact (law12_Sign h hn gr mask d).mono fun _ _ ⟨r, h1, h2, h3⟩ => ⟨r, h1, ⟨hg, LD, hp, h2⟩, h3⟩
theorem wp_Start (w : World) : Calls Tryz.prog 9 #[] w (fun e w' => ∃ gw, e = .returned (.tuple #[.pointer (some ⟨gw, 0, none⟩), .bool true]) ∧ w.heap.size ≤ gw ∧ WP w' w.heap.size gw [] [] 0 ∧ Fr (fun _ => False) w w') :=
  (law12_Start w).mono fun _ _ ⟨gw, h1, h2, h3, h4⟩ => ⟨gw, h1, h2, ⟨GoodL.nil, [], List.prefix_rfl, h3⟩, h4⟩
theorem ReadRow.st {lo : Nat} {w w' : World} {A : Option Addr} {l : List (ByteArray × Int)} (h : ReadRow w (fun k => k < lo) A l) (hs : St lo w w') : ReadRow w' (fun k => k < lo) A l := h.fr hs.fr (fun k hk e => by omega)
theorem WriteRow.st {lo : Nat} {w w' : World} {A : Option Addr} {l : List (ByteArray × ByteArray)} (h : WriteRow w (fun k => k < lo) A l) (hs : St lo w w') : WriteRow w' (fun k => k < lo) A l := h.fr hs.fr (fun k hk e => by omega)
theorem VoteRow.st {lo : Nat} {w w' : World} {A : Option Addr} {l : List VoteD} (h : VoteRow w (fun k => k < lo) A l) (hs : St lo w w') : VoteRow w' (fun k => k < lo) A l := h.fr hs.fr (fun k hk e => by omega)
end Go.Proofs.YtmkdhhhoodeemaaGreat

/- cohortlaw19: head. -/
namespace Go.Proofs.YtmkdhhhoodeemaaGreat
open Go Go.RowKit
theorem tok_one : TOk 1 1 [] [((⟨#[97]⟩ : ByteArray), (⟨#[]⟩ : ByteArray))] := by decide
theorem tok_zero : ¬ TOk 0 0 [] [] := by decide
theorem WriteRow.one {w : World} {g : Nat} {t : TypeId} {a b : ByteArray} (h : Blk w g t #[.string a, .string b]) : WriteRow w (fun k => k = g) (some ⟨g, 0, none⟩) [(a, b)] := fun k x hx => by
  cases k with
  | zero => simp only [List.getElem?_cons_zero, Option.some.injEq] at hx; subst hx; exact ⟨g, 0, rfl, rfl, h.cell 0, h.cell 1⟩
  | succ k => simp at hx
theorem WriteRow.none (w : World) (F : Nat → Prop) (A : Option Addr) : WriteRow w F A [] := fun k x hx => by simp at hx
theorem ReadRow.none (w : World) (F : Nat → Prop) (A : Option Addr) : ReadRow w F A [] := fun k x hx => by simp at hx
theorem lens_keep {w w' : World} {lo gw : Nat} {L : List (List Int)} {SL : List (Int × Int)} {nQ : Nat} {g m base : Nat} {v : Value} {gs ms gD gQ : Nat} (h : Lens w lo gw L SL nQ g m base v gs ms gD gQ) (hs : St lo w w') :
    w'.cell? ⟨gw, 0, none⟩ = some (.pointer (some ⟨g, 0, none⟩)) ∧ w'.cell? ⟨gw, 1, none⟩ = some (.pointer (some ⟨gs, 0, none⟩)) := by
  have hB := hs.blk _ _ _ h.blk (by decide)
  exact ⟨hB.cell 0, hB.cell 1⟩
theorem Lens.ord {w w' : World} {lo gw : Nat} {L L' : List (List Int)} {SL : List (Int × Int)} {nQ : Nat} {g m base : Nat} {v : Value} {gs ms gD gQ : Nat} {gg b : List Int} {e : Ending} (h : Lens w lo gw L SL nQ g m base v gs ms gD gQ) (hb : OrdStep w g m base v L' gs ms SL gg b e w') (hg : GoodL L') (hp : L <+: L') :
    ∃ tv, e = .returned tv ∧ TasksAt w' w.heap.size tv gg b ∧ WP w' lo gw L' SL nQ ∧ St lo w w' := by
  obtain ⟨tv, v', rfl, ht, hbs, hf, hk⟩ := hb
  obtain ⟨_, h1, h2⟩ := h.step (r := tv) ⟨v', rfl, hbs, hf.mono (fun _ _ h => h.elim .inl (fun h => .inr (h.elim .inl (fun h => .inr (.inl h))))), hk⟩ hg hp
  exact ⟨tv, rfl, ht, h1, h2⟩
theorem digL_nil (xs : List Int) : digL [] xs = [xs] := by simp [digL]
theorem digI_nil (xs : List Int) : digI [] xs = 0 := by simp [digI]
theorem digL_one (xs : List Int) : digL [xs] xs = [xs] := by simp [digL]
theorem digI_one (xs : List Int) : digI [xs] xs = 0 := by simp [digI]
theorem ok_vote : OkSay ⟨2, 3, true, ⟨#[]⟩, ⟨#[]⟩, 0, 1, 0, 0⟩ := by
  refine ⟨?_, ?_, ?_, ?_, ?_, ?_, ?_, ?_, ?_, ?_, ?_, ?_, ?_, ?_⟩ <;> decide
theorem signs_vote : signTo 2 7 ((0 : Nat) : Int) [] 10 = [(132, 0), (133, 0), (134, 0)] := by decide
theorem who_vote : whoInts 2 ((0 : Nat) : Int) [(132, 0), (133, 0), (134, 0)] = [0, 1, 2] := by decide
theorem who_none : whoInts 2 ((0 : Nat) : Int) [] = [] := by decide
theorem get_vote : getOk (num8 2 ++ num8 ((0 : Nat) : Int) ++ numsB [0, 1, 2]) := (put_get (xs := [0, 1, 2]) (by simp) ⟨by omega, by omega⟩ ⟨by omega, by omega⟩ (fun y h => by simp at h; unfold Wf64; omega)).1.2 ⟨by omega, fun y h => by simp at h; omega⟩
theorem TasksAt.one {w : World} {base : Nat} {v : Value} {g : Int} {b : List Int} (h : TasksAt w base v [g] b) : ∃ k c A cap, v = .slice (some ⟨k, 0, none⟩) 1 c ∧ w.cell? ⟨k, 0, none⟩ = some (.int .i64 g) ∧ w.cell? ⟨k, 1, none⟩ = some (.slice A b.length cap) ∧ ByteRow w (U8 w) A b := by
  obtain ⟨vals, h1, h2⟩ := h
  obtain ⟨A, cap, e1, e2, hr⟩ := h2 0 g rfl
  obtain ⟨A', c, rfl, _, hat⟩ := own_form h1
  obtain ⟨k, rfl, _, hc0⟩ := hat 0 _ (by simpa using e1)
  obtain ⟨k', he, _, hc1⟩ := hat 1 _ (by simpa using e2)
  cases he
  exact ⟨k, c, A, cap, rfl, hc0, hc1, hr⟩
theorem TasksAt.zero {w : World} {base : Nat} {v : Value} {b : List Int} (h : TasksAt w base v [] b) : ∃ A c, v = .slice A 0 c := by
  obtain ⟨vals, h1, h2⟩ := h
  obtain ⟨A', c, rfl, _, hat⟩ := own_form h1
  exact ⟨A', c, rfl⟩
set_option maxRecDepth 100000 in
set_option maxHeartbeats 1000000 in
theorem law19_head (w : World) : Calls Tryz.prog 8 #[] w (Bool1 w true) := by
  go_enter Tryz.func8, Tryz.ntmps8
  go_wp2_with fail
  refine (wp_Start _).mono ?_
  rintro e w1 ⟨gw, rfl, hgw, h1, hf1⟩
  go_upto_region 6 with fail
  have hS2 : Blk ((w1.alloc (Obj.cells #[.int .i64 2, .int .i64 3, .bool true, .string ⟨#[]⟩, .string ⟨#[]⟩, .int .i64 0, .int .i64 1, .int .i64 0, .int .i64 0] 23)).alloc (Obj.cells #[.int .i64 2, .int .i64 2, .int .i64 3, .bool true, .string ⟨#[]⟩, .string ⟨#[]⟩, .int .i64 0, .int .i64 1, .int .i64 0, .int .i64 0] 25)) w1.heap.size 23 #[.int .i64 2, .int .i64 3, .bool true, .string ⟨#[]⟩, .string ⟨#[]⟩, .int .i64 0, .int .i64 1, .int .i64 0, .int .i64 0] := (Blk.new w1 _ _).alloc _
  have hH2 : Blk ((w1.alloc (Obj.cells #[.int .i64 2, .int .i64 3, .bool true, .string ⟨#[]⟩, .string ⟨#[]⟩, .int .i64 0, .int .i64 1, .int .i64 0, .int .i64 0] 23)).alloc (Obj.cells #[.int .i64 2, .int .i64 2, .int .i64 3, .bool true, .string ⟨#[]⟩, .string ⟨#[]⟩, .int .i64 0, .int .i64 1, .int .i64 0, .int .i64 0] 25)) (w1.heap.size + 1) 25 #[.int .i64 2, .int .i64 2, .int .i64 3, .bool true, .string ⟨#[]⟩, .string ⟨#[]⟩, .int .i64 0, .int .i64 1, .int .i64 0, .int .i64 0] := Blk.new_ _ _ _ (by simp)
  have hf2 : Fr (fun _ => False) w1 ((w1.alloc (Obj.cells #[.int .i64 2, .int .i64 3, .bool true, .string ⟨#[]⟩, .string ⟨#[]⟩, .int .i64 0, .int .i64 1, .int .i64 0, .int .i64 0] 23)).alloc (Obj.cells #[.int .i64 2, .int .i64 2, .int .i64 3, .bool true, .string ⟨#[]⟩, .string ⟨#[]⟩, .int .i64 0, .int .i64 1, .int .i64 0, .int .i64 0] 25)) := ((Fr.refl _ _).alloc _).alloc _
  generalize ((w1.alloc (Obj.cells #[.int .i64 2, .int .i64 3, .bool true, .string ⟨#[]⟩, .string ⟨#[]⟩, .int .i64 0, .int .i64 1, .int .i64 0, .int .i64 0] 23)).alloc (Obj.cells #[.int .i64 2, .int .i64 2, .int .i64 3, .bool true, .string ⟨#[]⟩, .string ⟨#[]⟩, .int .i64 0, .int .i64 1, .int .i64 0, .int .i64 0] 25)) = w2 at *
  generalize w1.heap.size = x at *
  have h2 : WP w2.drew w.heap.size gw [] [] 0 := h1.keep hf2.drew
  have hS2 : Blk w2.drew x 23 #[.int .i64 2, .int .i64 3, .bool true, .string ⟨#[]⟩, .string ⟨#[]⟩, .int .i64 0, .int .i64 1, .int .i64 0, .int .i64 0] := hS2
  have hH2 : Blk w2.drew (x + 1) 25 #[.int .i64 2, .int .i64 2, .int .i64 3, .bool true, .string ⟨#[]⟩, .string ⟨#[]⟩, .int .i64 0, .int .i64 1, .int .i64 0, .int .i64 0] := hH2
  have hst2 : St w.heap.size w w2.drew := St.of _ (hf1.then_ hf2.drew)
  clear h1 hf1 hf2
  obtain ⟨ys, hys⟩ : ∃ ys, Hid (sayB ⟨2, 3, true, ⟨#[]⟩, ⟨#[]⟩, 0, 1, 0, 0⟩ = ys) := ⟨_, rfl⟩
  have hyl : Hid (ys.length ≤ 65536) := by
    obtain ⟨q1, q2, q3⟩ := sayB_length ok_vote
    show _ ≤ _
    rw [← hys.out]
    dsimp only at q1 q2 q3
    omega
  have hy8 : Hid (B8 ys) := by show B8 ys; rw [← hys.out]; exact b8_sayB _
  obtain ⟨g, m, base, v, gs, ms, gD, gQ, hN2⟩ := h2.open
  have hO := fun sh lv => orders_few (sh := sh) (lv := lv) (G := 2) (f := 1) hN2.bs hN2.base_le (by decide) ok_vote (by omega) (by rw [show sayI [] ⟨2, 3, true, ⟨#[]⟩, ⟨#[]⟩, 0, 1, 0, 0⟩ = ((0 : Nat) : Int) by rw [sayI, if_pos ok_vote, digI_nil], who_none]; decide)
  rw [show sayL [] ⟨2, 3, true, ⟨#[]⟩, ⟨#[]⟩, 0, 1, 0, 0⟩ = [ys] by rw [sayL, if_pos ok_vote, digL_nil, hys.out]] at hO
  have hO := Lib.hid hO
  have hG : Hid (GoodL [ys]) := by have := h2.good.dig hyl.out; rw [digL_nil] at this; exact this
  clear h2
  go_region_held3 (fun w' => w'.cell? ⟨gw, 0, none⟩ = some (.pointer (some ⟨g, 0, none⟩)) ∧ w'.cell? ⟨gw, 1, none⟩ = some (.pointer (some ⟨gs, 0, none⟩)) ∧ w'.cell? ⟨x + 1, 0, none⟩ = some (.int .i64 2) ∧ w'.cell? ⟨x + 1, 1, none⟩ = some (.int .i64 2) ∧ w'.cell? ⟨x + 1, 2, none⟩ = some (.int .i64 3) ∧ w'.cell? ⟨x + 1, 3, none⟩ = some (.bool true) ∧ w'.cell? ⟨x + 1, 4, none⟩ = some (.string ⟨#[]⟩) ∧ w'.cell? ⟨x + 1, 5, none⟩ = some (.string ⟨#[]⟩) ∧ w'.cell? ⟨x + 1, 6, none⟩ = some (.int .i64 0) ∧ w'.cell? ⟨x + 1, 7, none⟩ = some (.int .i64 1) ∧ w'.cell? ⟨x + 1, 8, none⟩ = some (.int .i64 0) ∧ w'.cell? ⟨x + 1, 9, none⟩ = some (.int .i64 0)) (first | exact ⟨(lens_keep hN2 hst3).1, (lens_keep hN2 hst3).2, hH3.cell 0, hH3.cell 1, hH3.cell 2, hH3.cell 3, hH3.cell 4, hH3.cell 5, hH3.cell 6, hH3.cell 7, hH3.cell 8, hH3.cell 9⟩ | exact ⟨hN2.b, hN2.s, hH2.cell 0, hH2.cell 1, hH2.cell 2, hH2.cell 3, hH2.cell 4, hH2.cell 5, hH2.cell 6, hH2.cell 7, hH2.cell 8, hH2.cell 9⟩) (first | (go_at_call 15; refine (hO.out _ _).mono ?_; rintro e w3 hs3; obtain ⟨tv3, rfl, ht3, h3, hst3⟩ := hN2.ord hs3 hG.out (List.nil_prefix); obtain ⟨A3, c3, rfl⟩ := ht3.zero; have hH3 := hst3.blk _ _ _ hH2 (by decide); have hS3 := hst3.blk _ _ _ hS2 (by decide)))
  have hst03 := hst2.trans hst3
  clear hO hG hN2 hS2 hH2 hst2 hst3 ht3
  have HP := ref11_Put1 w3 2 3 true ⟨#[]⟩ ⟨#[]⟩ 0 1 0 0
  rw [if_pos ok_vote, hys.out] at HP
  have HP := Lib.hid HP
  have y0 := hS3.cell 0
  have y1 := hS3.cell 1
  have y2 := hS3.cell 2
  have y3 := hS3.cell 3
  have y4 := hS3.cell 4
  have y5 := hS3.cell 5
  have y6 := hS3.cell 6
  have y7 := hS3.cell 7
  have y8 := hS3.cell 8
  go_wp2_with fail
  refine HP.out.mono ?_
  rintro e w4 ⟨v4, rfl, hv4, hf4⟩
  obtain ⟨A4, cap4, rfl, _, _⟩ := hv4.form
  have h4 := h3.keep hf4
  have HD := wp_Digest h4 (by simp) hv4 hy8.out hyl.out
  rw [digI_one, digL_one] at HD
  have HD := Lib.hid HD
  have hS4 := hS3.fr hf4 id
  have hH4 := hH3.fr hf4 id
  have hst04 := hst03.trans (St.of _ hf4)
  clear HP h3 h4 hS3 hH3 hst03 hv4 hf4
  go_wp2_with fail
  refine HD.out.mono ?_
  rintro e w5 ⟨rfl, h5, hst5⟩
  have hH5 := hst5.blk _ _ _ hH4 (by decide); have hS5 := hst5.blk _ _ _ hS4 (by decide)
  have hst05 := hst04.trans hst5
  clear HD hS4 hH4 hst04 hst5
  have HSg := wp_Sign h5 (by decide) 2 7 ((0 : Nat) : Int)
  rw [signs_vote] at HSg
  have HSg := Lib.hid HSg
  go_wp2_with fail
  refine HSg.out.mono ?_
  rintro e w6 ⟨r6, rfl, h6, hst6⟩
  have hH6 := hst6.blk _ _ _ hH5 (by decide); have hS6 := hst6.blk _ _ _ hS5 (by decide)
  have hst06 := hst05.trans hst6
  clear HSg h5 hS5 hH5 hst05 hst6
  go_upto_region 8 with fail
  have h6 : WP w6.drew w.heap.size gw [ys] [(132, 0), (133, 0), (134, 0)] (0 + 10) := h6.keep ((Fr.refl (fun _ => False) w6).drew)
  have hS6 : Blk w6.drew x 23 #[.int .i64 2, .int .i64 3, .bool true, .string ⟨#[]⟩, .string ⟨#[]⟩, .int .i64 0, .int .i64 1, .int .i64 0, .int .i64 0] := hS6
  have hH6 : Blk w6.drew (x + 1) 25 #[.int .i64 2, .int .i64 2, .int .i64 3, .bool true, .string ⟨#[]⟩, .string ⟨#[]⟩, .int .i64 0, .int .i64 1, .int .i64 0, .int .i64 0] := hH6
  have hst06 : St w.heap.size w w6.drew := hst06.trans (St.of _ ((Fr.refl (fun _ => False) w6).drew))
  obtain ⟨g, m, base, v, gs, ms, gD, gQ, hN6⟩ := h6.open
  have hI : sayI [ys] ⟨2, 3, true, ⟨#[]⟩, ⟨#[]⟩, 0, 1, 0, 0⟩ = ((0 : Nat) : Int) := by rw [sayI, if_pos ok_vote, hys.out, digI_one]
  have hO := fun sh lv => orders_vote (sh := sh) (lv := lv) (G := 2) (f := 1) (xs := [0, 1, 2]) hN6.bs hN6.base_le (by simp) ok_vote (by decide) (by omega) (by rw [hI, who_vote]; decide) (by rw [hI, who_vote]; decide) (by decide) (by rw [hI]; exact get_vote)
  rw [show sayL [ys] ⟨2, 3, true, ⟨#[]⟩, ⟨#[]⟩, 0, 1, 0, 0⟩ = [ys] by rw [sayL, if_pos ok_vote, hys.out, digL_one]] at hO
  have hO := Lib.hid hO
  have hG := Lib.hid h6.good
  clear h6 hI
  go_region_held3 (fun w' => w'.cell? ⟨gw, 0, none⟩ = some (.pointer (some ⟨g, 0, none⟩)) ∧ w'.cell? ⟨gw, 1, none⟩ = some (.pointer (some ⟨gs, 0, none⟩)) ∧ w'.cell? ⟨x + 1, 0, none⟩ = some (.int .i64 2) ∧ w'.cell? ⟨x + 1, 1, none⟩ = some (.int .i64 2) ∧ w'.cell? ⟨x + 1, 2, none⟩ = some (.int .i64 3) ∧ w'.cell? ⟨x + 1, 3, none⟩ = some (.bool true) ∧ w'.cell? ⟨x + 1, 4, none⟩ = some (.string ⟨#[]⟩) ∧ w'.cell? ⟨x + 1, 5, none⟩ = some (.string ⟨#[]⟩) ∧ w'.cell? ⟨x + 1, 6, none⟩ = some (.int .i64 0) ∧ w'.cell? ⟨x + 1, 7, none⟩ = some (.int .i64 1) ∧ w'.cell? ⟨x + 1, 8, none⟩ = some (.int .i64 0) ∧ w'.cell? ⟨x + 1, 9, none⟩ = some (.int .i64 0)) (first | exact ⟨(lens_keep hN6 hst7).1, (lens_keep hN6 hst7).2, hH7.cell 0, hH7.cell 1, hH7.cell 2, hH7.cell 3, hH7.cell 4, hH7.cell 5, hH7.cell 6, hH7.cell 7, hH7.cell 8, hH7.cell 9⟩ | exact ⟨hN6.b, hN6.s, hH6.cell 0, hH6.cell 1, hH6.cell 2, hH6.cell 3, hH6.cell 4, hH6.cell 5, hH6.cell 6, hH6.cell 7, hH6.cell 8, hH6.cell 9⟩) (first | (go_at_call 15; refine (hO.out _ _).mono ?_; rintro e w7 hs7; obtain ⟨tv7, rfl, ht7, h7, hst7⟩ := hN6.ord hs7 hG.out (List.prefix_rfl); obtain ⟨k7, c7, A7, cap7, rfl, q0, _, _⟩ := ht7.one; have hH7 := hst7.blk _ _ _ hH6 (by decide); have hS7 := hst7.blk _ _ _ hS6 (by decide)))
  have hst07 := hst06.trans hst7
  have hfr7 : Fr (fun _ => False) w w7 := hst07.fr.mono (fun k hk e => by omega)
  clear hO hG hN6 hS6 hH6 hS7 hH7 hst06 hst7 ht7 h7 hys hyl hy8
  go_upto_region 9 with fail
  have hWr : Blk (w7.alloc (Obj.cells #[.string ⟨#[97]⟩, .string ⟨#[]⟩] 84)) w7.heap.size 84 #[.string ⟨#[97]⟩, .string ⟨#[]⟩] := Blk.new _ _ _
  have hf78 : Fr (fun _ => False) w7 (w7.alloc (Obj.cells #[.string ⟨#[97]⟩, .string ⟨#[]⟩] 84)) := (Fr.refl _ _).alloc _
  have HB := relay_Begin (cr := 0) (cw := 1) (c := 1) (n := 1) (ReadRow.none _ (fun k => k = w7.heap.size) .none) (WriteRow.one hWr) ⟨by simp, by simp, .inl (by simp)⟩
  rw [if_pos tok_one, if_pos tok_one] at HB
  have HB := Lib.hid HB
  have HZ := fun w => relay_Begin (w := w) (cr := 0) (cw := 0) (c := 0) (n := 0) (ReadRow.none _ (fun _ => False) .none) (WriteRow.none _ _ .none) ⟨by simp, by simp, .inl (by simp)⟩
  simp only [if_neg tok_zero] at HZ
  have HZ := Lib.hid HZ
  go_upto_region 10 with (go_at_call 23; refine HB.out.mono ?_; rintro e w8 ⟨tv8, rfl, ht8, hf8⟩; obtain ⟨k8, c8, A8, cap8, rfl, _, _, _⟩ := ht8.one)
  have q0 := hf8.cell_some (hf78.cell_some q0 id) id
  have hfr8 := (hfr7.then_ hf78).then_ hf8
  clear HB hWr hf78 hf8 ht8 hfr7 hst07
  go_wp2_with (go_at_call 23; refine (HZ.out _).mono ?_; rintro e w9 ⟨tv9, rfl, ht9, hf9⟩; obtain ⟨A9, c9, rfl⟩ := ht9.zero)
  go_ret
  exact ⟨rfl, hfr8.then_ hf9⟩
end Go.Proofs.YtmkdhhhoodeemaaGreat
