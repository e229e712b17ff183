/- wire: the Writer's functions for rows; Bytes. -/
import Derived.Test.YtjnmfaaegbkmhaaWireT
namespace Go.Proofs.Ytjnmfaaegbkmhaa
open Go Go.RowKit
theorem flat_take {α : Type} (f : α → List Int) {l : List α} {k : Nat} {x : α} (h : l[k]? = some x) : (l.take (k + 1)).flatMap f = (l.take k).flatMap f ++ f x := by
  obtain ⟨hlt, rfl⟩ := List.getElem?_eq_some_iff.1 h
  rw [List.take_succ_eq_append_getElem hlt, List.flatMap_append]
  simp
theorem flat_le {α : Type} (f : α → List Int) (l : List α) (k : Nat) : ((l.take k).flatMap f).length ≤ (l.flatMap f).length := by
  have e : l.flatMap f = (l.take k).flatMap f ++ (l.drop k).flatMap f := by rw [← List.flatMap_append, List.take_append_drop]
  rw [e]
  simp
theorem flat_le1 {α : Type} (f : α → List Int) {l : List α} {k : Nat} {x : α} (h : l[k]? = some x) : ((l.take k).flatMap f).length + (f x).length ≤ (l.flatMap f).length := by
  have h1 := flat_take f h
  have h2 := flat_le f l (k + 1)
  rw [h1, List.length_append] at h2
  exact h2
theorem count4_length (n : Int) : (count4 n).length = 4 := rfl
theorem flat_num8 (l : List Int) : (l.flatMap num8).length = 8 * l.length := by
  induction l with
  | nil => rfl
  | cons x r ih => simp only [List.flatMap_cons, List.length_append, num8_length, ih, List.length_cons]; omega
theorem flat_textB (l : List (List Int)) : 4 * l.length ≤ (l.flatMap textB).length := by
  induction l with
  | nil => simp
  | cons x r ih => simp only [List.flatMap_cons, List.length_append, textB, count4_length, List.length_cons]; omega
set_option maxRecDepth 100000 in
theorem rows_int64_1 {w : World} {base : Nat} {v : Value} {bs l : List Int} {F : Nat → Prop} {A : Option Addr} {cap : Nat} (h : Own8 w base v bs) (hr : NumRow w F A l) (hA : ∀ k, F k → v.ownBlock ≠ some k) (hbase : base ≤ w.heap.size) (hb : bs.length + (numsB l).length ≤ 1099511627776)
    (bx by_ : Nat) (hx : w.cell? ⟨bx, 0, none⟩ = some (.slice A l.length cap)) (hy : w.cell? ⟨by_, 0, none⟩ = some (.func (.func 42) #[] #[])) (hvx : v.ownBlock ≠ some bx) (hvy : v.ownBlock ≠ some by_) :
    Calls Try.prog 50 #[v, .pointer (some ⟨bx, 0, none⟩), .pointer (some ⟨by_, 0, none⟩)] w (Grown w base v (bs ++ numsB l)) := by
  have HB : Hid (bs.length + (4 + (l.flatMap num8).length) ≤ 1099511627776) := by simpa [numsB, count4_length, Hid] using hb
  have hll : l.length ≤ 1099511627776 := by have h1 := HB.out; rw [flat_num8] at h1; omega
  clear hb
  go_enter Try.func50, Try.ntmps50
  go_wp2_with (first
    | (go_at_call 51; refine (wire_count h hbase (by have := HB.out; omega) _).mono ?_; rintro e w1 ⟨v1, rfl, h1, hf1, hk1⟩; have hx1 := hf1.cell_some hx hvx; have hy1 := hf1.cell_some hy hvy; have hr1 := hr.fr hf1 hA))
  go_loopw [0, 13] (fun b i wr => ∃ k : Nat, k ≤ l.length ∧ i = .int .i64 k ∧ Own8 wr base b (bs ++ count4 l.length ++ (l.take k).flatMap num8) ∧ Fr (fun k => v.ownBlock = some k) w wr ∧ ∀ k, b.ownBlock = some k → v.ownBlock = some k ∨ w.heap.size ≤ k) (fun _ i _ => l.length - (intOf i).toNat)
  case atStart => exact ⟨0, by omega, rfl, by simpa using h1, hf1, hk1⟩
  case round =>
    obtain ⟨k, hk, rfl, hown, hf, hko⟩ := hrel
    by_cases hlt : k < l.length
    · obtain ⟨x, hx0⟩ : ∃ x, l[k]? = some x := ⟨l[k], List.getElem?_eq_getElem hlt⟩
      obtain ⟨b, o, rfl, hFb, hc⟩ := hr k x hx0
      have d0 := hf.cell_some hc (hA b hFb)
      have d1 := hf.cell_some hx hvx
      have d2 := hf.cell_some hy hvy
      have HX := Lib.hid hx0
      have hsz := hf.size
      have hb2 : (bs ++ count4 l.length ++ (l.take k).flatMap num8).length + 8 ≤ 1099511627776 := by
        have h1 := HB.out
        have h2 := flat_le1 num8 hx0
        rw [num8_length] at h2
        simp only [List.length_append, count4_length]
        omega
      clear hr hc hx hy hx0 hx1 hy1 hr1
      go_wp2_with (first
        | (go_at_call 42; refine (wire_number hown (by omega) hb2 x).mono ?_; rintro e w2 ⟨v2, rfl, h2, hf2, hk2⟩))
      go_roundw
      case rel =>
        refine ⟨k + 1, by omega, by go_num, by rw [flat_take num8 HX.out, ← List.append_assoc]; exact h2, hf.trans hf2 (fun k hlk h => (hko k h).resolve_right (by omega)), ?_⟩
        intro j hj
        rcases hk2 j hj with h | h
        · exact hko j h
        · exact .inr (by omega)
      case measure => simp [intOf]; omega
    · obtain rfl : k = l.length := by omega
      rw [List.take_length] at hown
      go_wp2
      go_ret
      exact ⟨_, rfl, by rw [numsB, ← List.append_assoc]; exact hown, hf, hko⟩
theorem wire_rows_int64 (w : World) (A : Option Addr) (n cap : Nat) : Calls Try.prog 43 #[.slice A n cap, .func (.func 42) #[] #[]] w fun e w' => e = .returned (.func (.func 50) #[] #[.pointer (some ⟨w.heap.size, 0, none⟩), .pointer (some ⟨w.heap.size + 1, 0, none⟩)]) ∧ w' = (w.alloc (.cells #[.slice A n cap] 76)).alloc (.cells #[.func (.func 42) #[] #[]] 94) := by
  go_enter Try.func43, Try.ntmps43
  go_wp2
  go_ret
  exact ⟨rfl, rfl⟩
set_option maxRecDepth 100000 in
theorem writer_Nums {w : World} {g base : Nat} {v : Value} {bs : List Int} {bad : Option Nat} (h : WriterAt w g base v bs bad) (hbase : base ≤ w.heap.size) {l : List Int} {F : Nat → Prop} {A : Option Addr} {cap : Nat} (hr : NumRow w F A l) (hA : ∀ k, F k → v.ownBlock ≠ some k) (hll : l.length ≤ 9223372036854775807) (hb : bs.length + (numsB l).length ≤ 1099511627776 ∨ 1024 < l.length) :
    Calls Try.prog 28 #[.pointer (some ⟨g, 0, none⟩), .slice A l.length cap] w (Put1 w g base v bs bad (if l.length ≤ 1024 then some (numsB l) else none)) := by
  have hf0 : Fr (fun _ => False) w ((w.alloc (Obj.cells #[.slice A l.length cap] 76)).alloc (Obj.cells #[.func (.func 42) #[] #[]] 94)) := ((Fr.refl _ _).alloc _).alloc _
  have h1 := h.fr hf0 id (fun _ _ => id)
  have hr1 := hr.fr hf0 (fun _ _ => id)
  have hx : ((w.alloc (Obj.cells #[.slice A l.length cap] 76)).alloc (Obj.cells #[.func (.func 42) #[] #[]] 94)).cell? ⟨w.heap.size, 0, none⟩ = some (.slice A l.length cap) := ((Blk.new w 76 #[.slice A l.length cap]).alloc _).cell 0
  have hy : ((w.alloc (Obj.cells #[.slice A l.length cap] 76)).alloc (Obj.cells #[.func (.func 42) #[] #[]] 94)).cell? ⟨w.heap.size + 1, 0, none⟩ = some (.func (.func 42) #[] #[]) := (Blk.new_ (w.alloc (Obj.cells #[.slice A l.length cap] 76)) 94 #[.func (.func 42) #[] #[]] (n := w.heap.size + 1) (by simp)).cell 0
  have hvx : v.ownBlock ≠ some w.heap.size := fun e => Nat.lt_irrefl _ (h.own.lt _ e)
  have hvy : v.ownBlock ≠ some (w.heap.size + 1) := fun e => by have := h.own.lt _ e; omega
  have HB := Lib.hid hb
  unfold Put1
  clear hr hb
  cases bad with
  | some a =>
    have e : wput bs (some a) (if l.length ≤ 1024 then some (numsB l) else none) = (bs, some a) := by split <;> rfl
    rw [e]
    go_enter Try.func28, Try.ntmps28
    go_wp2_with (first
      | (go_at_call 43; refine (wire_rows_int64 _ _ _ _).mono ?_; rintro e w1 ⟨rfl, rfl⟩)
      | (go_at_call 40; refine (add_bad h1 _ _).mono ?_; rintro e w' ⟨v1, rfl, h2, hf2, hk2⟩))
    refine bodyPost_ret (v := .tuple #[]) (by simp [results, Try.results28, go_sem]) rfl ?_
    exact Wrote.before ⟨v1, rfl, h2, hf2, hk2⟩ hf0
  | none =>
    by_cases hs : l.length ≤ 1024
    · rw [if_pos hs]
      have hs' : (l.length : Int) ≤ 1024 := by omega
      have HS := Lib.hid hs
      simp only [wput]
      clear hs
      go_enter Try.func28, Try.ntmps28
      go_wp2_with (first
        | (go_at_call 43; refine (wire_rows_int64 _ _ _ _).mono ?_; rintro e w1 ⟨rfl, rfl⟩)
        | (go_at_call 40; refine (add_nums h1 w.heap.size (w.heap.size + 1) (rows_int64_1 h1.own hr1 hA (by simp; omega) (HB.out.resolve_right (by have := HS.out; omega)) _ _ hx hy hvx hvy)).mono ?_; rintro e w' ⟨v1, rfl, h2, hf2, hk2⟩))
      refine bodyPost_ret (v := .tuple #[]) (by simp [results, Try.results28, go_sem]) rfl ?_
      exact Wrote.before ⟨v1, rfl, h2, hf2, hk2⟩ hf0
    · rw [if_neg hs]
      have hs' : ¬ (l.length : Int) ≤ 1024 := by omega
      simp only [wput]
      clear hs
      go_enter Try.func28, Try.ntmps28
      go_wp2_with (first
        | (go_at_call 43; refine (wire_rows_int64 _ _ _ _).mono ?_; rintro e w1 ⟨rfl, rfl⟩)
        | (go_at_call 40; refine (add_many h1 _).mono ?_; rintro e w' ⟨v1, rfl, h2, hf2, hk2⟩))
      refine bodyPost_ret (v := .tuple #[]) (by simp [results, Try.results28, go_sem]) rfl ?_
      exact Wrote.before ⟨v1, rfl, h2, hf2, hk2⟩ hf0
def longs (l : List (List Int)) : Bool := l.any fun s => decide (65536 < s.length)
def listO (l : List (List Int)) : Option (List Int) := if l.length ≤ 1024 ∧ longs l = false then some (listB l) else none
end Go.Proofs.Ytjnmfaaegbkmhaa
