/- cohortlaw05.signed: the program's seals and the document's, of the same list. -/
import Derived.Test.YtjnmfaaegbkmhaaSeals
import Derived.Test.YtjnmfaaegbkmhaaRef04
import Derived.Lib.Hide
namespace Go.Proofs.Ytjnmfaaegbkmhaa
open Go Go.RowKit
/-- A row of structs of three integers that came in. -/
def SealRow (w : World) (A : Option Addr) (l : List (Int × Int × Int)) : Prop :=
  ∀ k s, l[k]? = some s → ∃ b o, A = some ⟨b, o, none⟩ ∧ b < w.heap.size ∧ w.cell? ⟨b, o + k * 3, none⟩ = some (.int .i64 s.1) ∧ w.cell? ⟨b, o + k * 3 + 1, none⟩ = some (.int .i64 s.2.1) ∧ w.cell? ⟨b, o + k * 3 + 2, none⟩ = some (.int .i64 s.2.2)
theorem SealRow.fr {S : Nat → Prop} {w w' : World} {A : Option Addr} {l : List (Int × Int × Int)} (h : SealRow w A l) (hf : Fr S w w') (hS : ∀ k, k < w.heap.size → ¬ S k) : SealRow w' A l := by
  intro k s hs
  obtain ⟨b, o, e, hb, c0, c1, c2⟩ := h k s hs
  exact ⟨b, o, e, Nat.lt_of_lt_of_le hb hf.size, hf.cell_some c0 (hS b hb), hf.cell_some c1 (hS b hb), hf.cell_some c2 (hS b hb)⟩
def sign1 (L : List (Int × Int)) (s : Int × Int × Int) : List (Int × Int) := signL (memberOf s.1 s.2.1) s.2.2 L
def signTo (l : List (Int × Int × Int)) (k : Nat) : List (Int × Int) := (l.take k).foldl sign1 []
theorem signTo_succ {l : List (Int × Int × Int)} {k : Nat} {s : Int × Int × Int} (h : l[k]? = some s) : signTo l (k + 1) = sign1 (signTo l k) s := by
  obtain ⟨hlt, rfl⟩ := List.getElem?_eq_some_iff.1 h
  rw [signTo, List.take_succ_eq_append_getElem hlt, List.foldl_append]
  rfl
theorem signL_le (who d : Int) (L : List (Int × Int)) : (signL who d L).length ≤ L.length + 1 := by
  unfold signL
  split
  · omega
  · split
    · omega
    · split
      · omega
      · rw [List.length_append]; exact Nat.le_refl _
theorem signTo_le (l : List (Int × Int × Int)) : ∀ k, (signTo l k).length ≤ k
  | 0 => by simp [signTo]
  | k + 1 => by
    rcases Nat.lt_or_ge k l.length with h | h
    · rw [signTo_succ (List.getElem?_eq_getElem h)]
      have h1 := signTo_le l k
      have h2 := signL_le (memberOf l[k].1 l[k].2.1) l[k].2.2 (signTo l k)
      unfold sign1
      omega
    · have h1 := signTo_le l k
      unfold signTo at h1 ⊢
      rw [List.take_of_length_le (by omega)]
      rw [List.take_of_length_le (by omega)] at h1
      omega
theorem memberOf_le (g i : Int) : memberOf g i ≤ 9223372036854775807 := by unfold memberOf; split <;> omega
def Signed2 (w : World) (l : List (Int × Int × Int)) (e : Ending) (w' : World) : Prop :=
  ∃ g m gr v, e = .returned (.tuple #[.pointer (some ⟨g, 0, none⟩), .pointer (some ⟨gr, 0, none⟩)]) ∧ w.heap.size ≤ g ∧ w.heap.size ≤ m ∧ w.heap.size ≤ gr ∧
    SealsAt w' g m (signTo l 200) ∧ RefAt w' gr w.heap.size v (signTo l 200) ∧ Fr (fun _ => False) w w'
set_option maxRecDepth 100000 in
theorem law05_signed {w : World} {A : Option Addr} {l : List (Int × Int × Int)} {cap : Nat} (h : SealRow w A l) (hl : l.length ≤ 9223372036854775807) :
    Calls Try.prog 7 #[.slice A l.length cap] w (Signed2 w l) := by
  go_enter Try.func7, Try.ntmps7
  go_wp2_with (first
    | (go_at_call 19; refine (seals_New _).mono ?_; rintro e w1 ⟨g, m, rfl, hg, hm, hs, hf⟩))
  have hs0 : SealsAt (w1.alloc (Obj.cells #[.slice none 0 0] 54)) g m [] := hs.fr ((Fr.refl (fun _ => False) _).alloc _) id id
  have hr0 : RefAt (w1.alloc (Obj.cells #[.slice none 0 0] 54)) w1.heap.size w.heap.size (.slice none 0 0) [] := ⟨Blk.new _ _ _, World.ownsRow_nil _ _ _ _⟩
  have hf0 : Fr (fun _ => False) w (w1.alloc (Obj.cells #[.slice none 0 0] 54)) := hf.alloc _
  have hgr : w.heap.size ≤ w1.heap.size := hf.size
  clear hs
  go_loopw [6] (fun i wr => ∃ (k : Nat) (v : Value), k ≤ l.length ∧ k ≤ 200 ∧ i = .int .i64 k ∧ SealsAt wr g m (signTo l k) ∧ RefAt wr w1.heap.size w.heap.size v (signTo l k) ∧ Fr (fun _ => False) w wr) (fun i _ => 200 - (intOf i).toNat)
  case atStart => exact ⟨0, _, by omega, by omega, rfl, hs0, hr0, hf0⟩
  case round =>
    obtain ⟨k, v, hk, hk2, rfl, hsk, hrk, hfk⟩ := hrel
    clear hs0 hr0 hf0
    by_cases hlt : k < l.length ∧ k < 200
    · obtain ⟨hlt, hlt2⟩ := hlt
      obtain ⟨s, hs⟩ : ∃ s, l[k]? = some s := ⟨l[k], List.getElem?_eq_getElem hlt⟩
      obtain ⟨b, o, rfl, hb, c0, c1, c2⟩ := h k s hs
      have d0 := hfk.cell_some c0 id
      have d1 := hfk.cell_some c1 id
      have d2 := hfk.cell_some c2 id
      have hbw : b < wr.heap.size := Nat.lt_of_lt_of_le hb hfk.size
      clear h c0 c1 c2
      have HS := Lib.hid hs
      clear hs
      go_wp2_with (fail)
      go_quiet ((go_at_call 14; exact quiet_left (ref04_Member s.1 s.2.1 _)))
      go_wp2_with (fail)
      have HL : (signTo l k).length < 131072 := by have := signTo_le l k; omega
      have HL' := Lib.hid HL
      clear HL
      have n1 : g ≠ w1.heap.size := hsk.blk.ne_ hrk.blk (by decide)
      have n2 : m ≠ w1.heap.size := by
        obtain ⟨es, cl, e1, _⟩ := hsk.map
        exact fun e2 => hrk.blk.ne_map e1 e2.symm
      have n3 := own_ne_blk hrk.own hsk.blk (by decide)
      have n4 := own_ne_map hrk.own hsk.map
      have n5 := hrk.own.lt
      refine (ref04_Sign (hrk.drewN nq) (Nat.le_trans hgr (Nat.le_of_lt hrk.blk.lt)) HL'.out _ _).mono ?_
      rintro e w2 ⟨v2, rfl, hr2, hf2⟩
      have hs2 : SealsAt w2 g m (signTo l k) := (hsk.drewN nq).fr hf2 (not_or.2 ⟨n1, n3⟩) (not_or.2 ⟨n2, n4⟩)
      have d2' : w2.cell? ⟨b, o + k * 3 + 2, none⟩ = some (.int .i64 s.2.2) := hf2.cell_some (w := wr.drewN nq) d2 (by rintro (h1 | h1); (· simp at h1; omega); (· have := (n5 _ h1).1; simp at this; omega))
      have hfr2 : Fr (fun _ => False) w w2 := (hfk.drewN nq).trans hf2 (by rintro x hx (h1 | h1); (· omega); (· have := (n5 _ h1).1; omega))
      clear d0 d1 d2 n1 n2 n3 n4 n5 hsk hrk hfk hf2
      go_wp2_with (fail)
      refine (seals_Sign hs2 _ _ (memberOf_le _ _)).mono ?_
      rintro e w3 ⟨rfl, hs3, hf3⟩
      have n6 : w1.heap.size ≠ m := by
        obtain ⟨es, cl, e1, _⟩ := hs2.map
        exact hr2.blk.ne_map e1
      have n7 := own_ne_map hr2.own hs2.map
      have hr3 : RefAt w3 w1.heap.size w.heap.size v2 (signL (memberOf s.1 s.2.1) s.2.2 (signTo l k)) := hr2.fr hf3 n6 (fun x hx e1 => n7 (by rw [hx, e1]))
      have hfr3 : Fr (fun _ => False) w w3 := hfr2.trans hf3 (fun x hx e1 => by omega)
      clear hs2 hr2 hf3 hfr2 n6 n7 d2'
      go_wp2
      go_roundw
      case rel => exact ⟨k + 1, v2, by omega, by omega, by go_num, by rw [signTo_succ HS.out]; exact hs3, by rw [signTo_succ HS.out]; exact hr3, hfr3⟩
      case measure => simp [intOf]; omega
    · have hend : signTo l k = signTo l 200 := by
        unfold signTo
        by_cases h2 : k = 200
        · rw [h2]
        · rw [List.take_of_length_le (by omega), List.take_of_length_le (by omega)]
      have H1 : Hid (SealsAt wr g m (signTo l 200)) := by rw [← hend]; exact hsk
      have H2 : Hid (RefAt wr w1.heap.size w.heap.size v (signTo l 200)) := by rw [← hend]; exact hrk
      clear hend hsk hrk
      by_cases hlt1 : k < l.length
      · have h2 : ¬ k < 200 := fun h3 => hlt ⟨hlt1, h3⟩
        clear hlt
        go_wp2
        go_ret2
        exact ⟨g, m, w1.heap.size, v, rfl, hg, hm, hgr, H1.out, H2.out, hfk⟩
      · clear hlt
        go_wp2
        go_ret2
        exact ⟨g, m, w1.heap.size, v, rfl, hg, hm, hgr, H1.out, H2.out, hfk⟩
end Go.Proofs.Ytjnmfaaegbkmhaa
