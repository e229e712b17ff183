/- wire: the Writer's functions for rows; Bytes. -/
import Derived.Test.YtkbcobbnjiekfaaDoorWireT
namespace Go.Proofs.YtkbcobbnjiekfaaDoor
open Go Go.RowKit
theorem flat_take {α : Type} (f : α → List Int) {l : List α} {k : Nat} {x : α} (h : l[k]? = some x) : (l.take (k + 1)).flatMap f = (l.take k).flatMap f ++ f x := by
  obtain ⟨hlt, rfl⟩ := List.getElem?_eq_some_iff.1 h
  rw [List.take_succ_eq_append_getElem hlt, List.flatMap_append]
  simp
theorem flat_le {α : Type} (f : α → List Int) (l : List α) (k : Nat) : ((l.take k).flatMap f).length ≤ (l.flatMap f).length := by
  have e : l.flatMap f = (l.take k).flatMap f ++ (l.drop k).flatMap f := by rw [← List.flatMap_append, List.take_append_drop]
  rw [e]
  simp
theorem flat_le1 {α : Type} (f : α → List Int) {l : List α} {k : Nat} {x : α} (h : l[k]? = some x) : ((l.take k).flatMap f).length + (f x).length ≤ (l.flatMap f).length := by
  have h1 := flat_take f h
  have h2 := flat_le f l (k + 1)
  rw [h1, List.length_append] at h2
  exact h2
theorem count4_length (n : Int) : (count4 n).length = 4 := rfl
theorem flat_num8 (l : List Int) : (l.flatMap num8).length = 8 * l.length := by
  induction l with
  | nil => rfl
  | cons x r ih => simp only [List.flatMap_cons, List.length_append, num8_length, ih, List.length_cons]; omega
theorem flat_textB (l : List (List Int)) : 4 * l.length ≤ (l.flatMap textB).length := by
  induction l with
  | nil => simp
  | cons x r ih => simp only [List.flatMap_cons, List.length_append, textB, count4_length, List.length_cons]; omega
set_option maxRecDepth 100000 in
theorem rows_int64_1 {w : World} {base : Nat} {v : Value} {bs l : List Int} {F : Nat → Prop} {A : Option Addr} {cap : Nat} (h : Own8 w base v bs) (hr : NumRow w F A l) (hA : ∀ k, F k → v.ownBlock ≠ some k) (hbase : base ≤ w.heap.size) (hb : bs.length + (numsB l).length ≤ 1099511627776)
    (bx by_ : Nat) (hx : w.cell? ⟨bx, 0, none⟩ = some (.slice A l.length cap)) (hy : w.cell? ⟨by_, 0, none⟩ = some (.func (.func 37) #[] #[])) (hvx : v.ownBlock ≠ some bx) (hvy : v.ownBlock ≠ some by_) :
    Calls Tryd.prog 72 #[v, .pointer (some ⟨bx, 0, none⟩), .pointer (some ⟨by_, 0, none⟩)] w (Grown w base v (bs ++ numsB l)) := by
  have HB : Hid (bs.length + (4 + (l.flatMap num8).length) ≤ 1099511627776) := by simpa [numsB, count4_length, Hid] using hb
  have hll : l.length ≤ 1099511627776 := by have h1 := HB.out; rw [flat_num8] at h1; omega
  clear hb
  go_enter Tryd.func72, Tryd.ntmps72
  go_wp2_with (first
    | (go_at_call 69; refine (wire_count h hbase (by have := HB.out; omega) _).mono ?_; rintro e w1 ⟨v1, rfl, h1, hf1, hk1⟩; have hx1 := hf1.cell_some hx hvx; have hy1 := hf1.cell_some hy hvy; have hr1 := hr.fr hf1 hA))
  go_loopw [0, 13] (fun b i wr => ∃ k : Nat, k ≤ l.length ∧ i = .int .i64 k ∧ Own8 wr base b (bs ++ count4 l.length ++ (l.take k).flatMap num8) ∧ Fr (fun k => v.ownBlock = some k) w wr ∧ ∀ k, b.ownBlock = some k → v.ownBlock = some k ∨ w.heap.size ≤ k) (fun _ i _ => l.length - (intOf i).toNat)
  case atStart => exact ⟨0, by omega, rfl, by simpa using h1, hf1, hk1⟩
  case round =>
    obtain ⟨k, hk, rfl, hown, hf, hko⟩ := hrel
    by_cases hlt : k < l.length
    · obtain ⟨x, hx0⟩ : ∃ x, l[k]? = some x := ⟨l[k], List.getElem?_eq_getElem hlt⟩
      obtain ⟨b, o, rfl, hFb, hc⟩ := hr k x hx0
      have d0 := hf.cell_some hc (hA b hFb)
      have d1 := hf.cell_some hx hvx
      have d2 := hf.cell_some hy hvy
      have HX := Lib.hid hx0
      have hsz := hf.size
      have hb2 : (bs ++ count4 l.length ++ (l.take k).flatMap num8).length + 8 ≤ 1099511627776 := by
        have h1 := HB.out
        have h2 := flat_le1 num8 hx0
        rw [num8_length] at h2
        simp only [List.length_append, count4_length]
        omega
      clear hr hc hx hy hx0 hx1 hy1 hr1
      go_wp2_with (first
        | (go_at_call 37; refine (wire_number hown (by omega) hb2 x).mono ?_; rintro e w2 ⟨v2, rfl, h2, hf2, hk2⟩))
      go_roundw
      case rel =>
        refine ⟨k + 1, by omega, by go_num, by rw [flat_take num8 HX.out, ← List.append_assoc]; exact h2, hf.trans hf2 (fun k hlk h => (hko k h).resolve_right (by omega)), ?_⟩
        intro j hj
        rcases hk2 j hj with h | h
        · exact hko j h
        · exact .inr (by omega)
      case measure => simp [intOf]; omega
    · obtain rfl : k = l.length := by omega
      rw [List.take_length] at hown
      go_wp2
      go_ret
      exact ⟨_, rfl, by rw [numsB, ← List.append_assoc]; exact hown, hf, hko⟩
set_option maxRecDepth 100000 in
theorem rows_text_1 {w : World} {base : Nat} {v : Value} {bs : List Int} {l : List (List Int)} {F : Nat → Prop} {A : Option Addr} {cap : Nat} (h : Own8 w base v bs) (hr : TextRow w F A l) (hA : ∀ k, F k → v.ownBlock ≠ some k) (hF : ∀ k, F k → k < w.heap.size) (hbase : base ≤ w.heap.size) (hb : bs.length + (listB l).length ≤ 1099511627776)
    (bx by_ : Nat) (hx : w.cell? ⟨bx, 0, none⟩ = some (.slice A l.length cap)) (hy : w.cell? ⟨by_, 0, none⟩ = some (.func (.func 47) #[] #[])) (hvx : v.ownBlock ≠ some bx) (hvy : v.ownBlock ≠ some by_) :
    Calls Tryd.prog 71 #[v, .pointer (some ⟨bx, 0, none⟩), .pointer (some ⟨by_, 0, none⟩)] w (Grown w base v (bs ++ listB l)) := by
  have HB : Hid (bs.length + (4 + (l.flatMap textB).length) ≤ 1099511627776) := by simp only [listB, List.length_append, count4_length] at hb; exact hb
  have hll : l.length ≤ 1099511627776 := by have h1 := HB.out; have h2 := flat_textB l; omega
  clear hb
  go_enter Tryd.func71, Tryd.ntmps71
  go_wp2_with (first
    | (go_at_call 69; refine (wire_count h hbase (by have := HB.out; omega) _).mono ?_; rintro e w1 ⟨v1, rfl, h1, hf1, hk1⟩; have hx1 := hf1.cell_some hx hvx; have hy1 := hf1.cell_some hy hvy; have hr1 := hr.fr hf1 hA))
  go_loopw [0, 13] (fun b i wr => ∃ k : Nat, k ≤ l.length ∧ i = .int .i64 k ∧ Own8 wr base b (bs ++ count4 l.length ++ (l.take k).flatMap textB) ∧ Fr (fun k => v.ownBlock = some k) w wr ∧ ∀ k, b.ownBlock = some k → v.ownBlock = some k ∨ w.heap.size ≤ k) (fun _ i _ => l.length - (intOf i).toNat)
  case atStart => exact ⟨0, by omega, rfl, by simpa using h1, hf1, hk1⟩
  case round =>
    obtain ⟨k, hk, rfl, hown, hf, hko⟩ := hrel
    by_cases hlt : k < l.length
    · obtain ⟨x, hx0⟩ : ∃ x, l[k]? = some x := ⟨l[k], List.getElem?_eq_getElem hlt⟩
      obtain ⟨b, o, A', cap', rfl, hFb, hc, hrx⟩ := hr k x hx0
      have hrx1 := hrx.fr hf hA
      have hA1 : ∀ j, F j → u0.ownBlock ≠ some j := fun j hj e => by
        rcases hko j e with h | h
        · exact hA j hj h
        · exact absurd (hF j hj) (by omega)
      have d0 := hf.cell_some hc (hA b hFb)
      have d1 := hf.cell_some hx hvx
      have d2 := hf.cell_some hy hvy
      have HX := Lib.hid hx0
      have hsz := hf.size
      have hb2 : (bs ++ count4 l.length ++ (l.take k).flatMap textB).length + 4 + x.length ≤ 1099511627776 := by
        have h1 := HB.out
        have h2 := flat_le1 textB hx0
        simp only [textB, List.length_append, count4_length] at h2
        simp only [List.length_append, count4_length]
        omega
      clear hr hc hrx hx hy hx0 hx1 hy1 hr1
      go_wp2_with (first
        | (go_at_call 47; refine (wire_text hown hrx1 hA1 (by omega) hb2).mono ?_; rintro e w2 ⟨v2, rfl, h2, hf2, hk2⟩))
      go_roundw
      case rel =>
        refine ⟨k + 1, by omega, by go_num, by rw [flat_take textB HX.out, ← List.append_assoc]; exact h2, hf.trans hf2 (fun k hlk h => (hko k h).resolve_right (by omega)), ?_⟩
        intro j hj
        rcases hk2 j hj with h | h
        · exact hko j h
        · exact .inr (by omega)
      case measure => simp [intOf]; omega
    · obtain rfl : k = l.length := by omega
      rw [List.take_length] at hown
      go_wp2
      go_ret
      exact ⟨_, rfl, by rw [listB, ← List.append_assoc]; exact hown, hf, hko⟩
theorem wire_rows_int64 (w : World) (A : Option Addr) (n cap : Nat) : Calls Tryd.prog 51 #[.slice A n cap, .func (.func 37) #[] #[]] w fun e w' => e = .returned (.func (.func 72) #[] #[.pointer (some ⟨w.heap.size, 0, none⟩), .pointer (some ⟨w.heap.size + 1, 0, none⟩)]) ∧ w' = (w.alloc (.cells #[.slice A n cap] 42)).alloc (.cells #[.func (.func 37) #[] #[]] 67) := by
  go_enter Tryd.func51, Tryd.ntmps51
  go_wp2
  go_ret
  exact ⟨rfl, rfl⟩
theorem wire_rows_text (w : World) (A : Option Addr) (n cap : Nat) : Calls Tryd.prog 50 #[.slice A n cap, .func (.func 47) #[] #[]] w fun e w' => e = .returned (.func (.func 71) #[] #[.pointer (some ⟨w.heap.size, 0, none⟩), .pointer (some ⟨w.heap.size + 1, 0, none⟩)]) ∧ w' = (w.alloc (.cells #[.slice A n cap] 41)).alloc (.cells #[.func (.func 47) #[] #[]] 79) := by
  go_enter Tryd.func50, Tryd.ntmps50
  go_wp2
  go_ret
  exact ⟨rfl, rfl⟩
set_option maxRecDepth 100000 in
theorem writer_Nums {w : World} {g base : Nat} {v : Value} {bs : List Int} {bad : Option Nat} (h : WriterAt w g base v bs bad) (hbase : base ≤ w.heap.size) {l : List Int} {F : Nat → Prop} {A : Option Addr} {cap : Nat} (hr : NumRow w F A l) (hA : ∀ k, F k → v.ownBlock ≠ some k) (hll : l.length ≤ 9223372036854775807) (hb : bs.length + (numsB l).length ≤ 1099511627776 ∨ 1024 < l.length) :
    Calls Tryd.prog 19 #[.pointer (some ⟨g, 0, none⟩), .slice A l.length cap] w (Put1 w g base v bs bad (if l.length ≤ 1024 then some (numsB l) else none)) := by
  have hf0 : Fr (fun _ => False) w ((w.alloc (Obj.cells #[.slice A l.length cap] 42)).alloc (Obj.cells #[.func (.func 37) #[] #[]] 67)) := ((Fr.refl _ _).alloc _).alloc _
  have h1 := h.fr hf0 id (fun _ _ => id)
  have hr1 := hr.fr hf0 (fun _ _ => id)
  have hx : ((w.alloc (Obj.cells #[.slice A l.length cap] 42)).alloc (Obj.cells #[.func (.func 37) #[] #[]] 67)).cell? ⟨w.heap.size, 0, none⟩ = some (.slice A l.length cap) := ((Blk.new w 42 #[.slice A l.length cap]).alloc _).cell 0
  have hy : ((w.alloc (Obj.cells #[.slice A l.length cap] 42)).alloc (Obj.cells #[.func (.func 37) #[] #[]] 67)).cell? ⟨w.heap.size + 1, 0, none⟩ = some (.func (.func 37) #[] #[]) := (Blk.new_ (w.alloc (Obj.cells #[.slice A l.length cap] 42)) 67 #[.func (.func 37) #[] #[]] (n := w.heap.size + 1) (by simp)).cell 0
  have hvx : v.ownBlock ≠ some w.heap.size := fun e => Nat.lt_irrefl _ (h.own.lt _ e)
  have hvy : v.ownBlock ≠ some (w.heap.size + 1) := fun e => by have := h.own.lt _ e; omega
  have HB := Lib.hid hb
  unfold Put1
  clear hr hb
  cases bad with
  | some a =>
    have e : wput bs (some a) (if l.length ≤ 1024 then some (numsB l) else none) = (bs, some a) := by split <;> rfl
    rw [e]
    go_enter Tryd.func19, Tryd.ntmps19
    go_wp2_with (first
      | (go_at_call 51; refine (wire_rows_int64 _ _ _ _).mono ?_; rintro e w1 ⟨rfl, rfl⟩)
      | (go_at_call 35; refine (add_bad h1 _ _).mono ?_; rintro e w' ⟨v1, rfl, h2, hf2, hk2⟩))
    refine bodyPost_ret (v := .tuple #[]) (by simp [results, Tryd.results19, go_sem]) rfl ?_
    exact Wrote.before ⟨v1, rfl, h2, hf2, hk2⟩ hf0
  | none =>
    by_cases hs : l.length ≤ 1024
    · rw [if_pos hs]
      have hs' : (l.length : Int) ≤ 1024 := by omega
      have HS := Lib.hid hs
      simp only [wput]
      clear hs
      go_enter Tryd.func19, Tryd.ntmps19
      go_wp2_with (first
        | (go_at_call 51; refine (wire_rows_int64 _ _ _ _).mono ?_; rintro e w1 ⟨rfl, rfl⟩)
        | (go_at_call 35; refine (add_nums h1 w.heap.size (w.heap.size + 1) (rows_int64_1 h1.own hr1 hA (by simp; omega) (HB.out.resolve_right (by have := HS.out; omega)) _ _ hx hy hvx hvy)).mono ?_; rintro e w' ⟨v1, rfl, h2, hf2, hk2⟩))
      refine bodyPost_ret (v := .tuple #[]) (by simp [results, Tryd.results19, go_sem]) rfl ?_
      exact Wrote.before ⟨v1, rfl, h2, hf2, hk2⟩ hf0
    · rw [if_neg hs]
      have hs' : ¬ (l.length : Int) ≤ 1024 := by omega
      simp only [wput]
      clear hs
      go_enter Tryd.func19, Tryd.ntmps19
      go_wp2_with (first
        | (go_at_call 51; refine (wire_rows_int64 _ _ _ _).mono ?_; rintro e w1 ⟨rfl, rfl⟩)
        | (go_at_call 35; refine (add_many h1 _).mono ?_; rintro e w' ⟨v1, rfl, h2, hf2, hk2⟩))
      refine bodyPost_ret (v := .tuple #[]) (by simp [results, Tryd.results19, go_sem]) rfl ?_
      exact Wrote.before ⟨v1, rfl, h2, hf2, hk2⟩ hf0
def longs (l : List (List Int)) : Bool := l.any fun s => decide (65536 < s.length)
def listO (l : List (List Int)) : Option (List Int) := if l.length ≤ 1024 ∧ longs l = false then some (listB l) else none
theorem list1 {w : World} (A : Option Addr) (n cap : Nat) : Calls Tryd.prog 49 #[.slice A n cap] w fun e w' => e = .returned (.bool (decide (65536 < n))) ∧ w = w' := by
  go_enter Tryd.func49, Tryd.ntmps49
  go_wp2_with (go_at_call 45; refine (wire_short _ _ _).mono ?_; rintro e w1 ⟨rfl, rfl⟩)
  go_ret
  have e : decide (65536 < n) = !decide (n ≤ 65536) := by by_cases h : n ≤ 65536 <;> simp [h] <;> omega
  exact ⟨by rw [e]; rfl, rfl⟩
set_option maxRecDepth 100000 in
theorem indexLong {w : World} {F : Nat → Prop} {A : Option Addr} {cap : Nat} {l : List (List Int)} (hr : TextRow w F A l) (hll : l.length ≤ 9223372036854775807) :
    Calls Tryd.prog 70 #[.slice A l.length cap, .func (.func 49) #[] #[]] w fun e w' => (∃ i : Int, e = .returned (.int .i64 i) ∧ (decide (0 ≤ i) = longs l)) ∧ w = w' := by
  go_enter Tryd.func70, Tryd.ntmps70
  go_wp2_with fail
  go_loopw [8] (fun i wr => ∃ k : Nat, k ≤ l.length ∧ i = .int .i64 k ∧ (∀ j s, j < k → l[j]? = some s → s.length ≤ 65536) ∧ w = wr) (fun i _ => l.length - (intOf i).toNat)
  case atStart => exact ⟨0, by omega, rfl, fun j s h _ => by omega, rfl⟩
  case round =>
    obtain ⟨k, hk, rfl, hsh, rfl⟩ := hrel
    by_cases hlt : k < l.length
    · obtain ⟨x, hx0⟩ : ∃ x, l[k]? = some x := ⟨l[k], List.getElem?_eq_getElem hlt⟩
      obtain ⟨b, o, A', cap', rfl, _, hc, _⟩ := hr k x hx0
      have HX := Lib.hid hx0
      have HS := Lib.hid hsh
      clear hr hx0 hsh
      by_cases hx : 65536 < x.length
      · have hd : decide (65536 < x.length) = true := decide_eq_true hx
        have HL : Hid (longs l = true) := by
          show longs l = true
          rw [longs, List.any_eq_true]
          exact ⟨x, List.mem_of_getElem? HX.out, hd⟩
        clear hx
        go_wp2_with (first
          | (go_at_call 49; refine (list1 _ _ _).mono ?_; rintro e w1 ⟨rfl, rfl⟩; rw [hd]))
        go_ret
        exact ⟨⟨_, rfl, by rw [HL.out]; simp⟩, rfl⟩
      · have hd : decide (65536 < x.length) = false := decide_eq_false hx
        have HN : Hid (¬ 65536 < x.length) := hx
        clear hx
        go_wp2_with (first
          | (go_at_call 49; refine (list1 _ _ _).mono ?_; rintro e w1 ⟨rfl, rfl⟩; rw [hd]))
        go_roundw
        case rel =>
          refine ⟨k + 1, by omega, by go_num, ?_, by trivial⟩
          intro j s hj hs
          by_cases hjk : j = k
          · subst hjk
            have e := HX.out
            rw [hs] at e
            cases e
            exact Nat.le_of_not_lt HN.out
          · exact HS.out j s (by omega) hs
        case measure => simp [intOf]; omega
    · obtain rfl : k = l.length := by omega
      have HL : Hid (longs l = false) := by
        show longs l = false
        rw [longs, List.any_eq_false]
        intro s hs
        obtain ⟨j, hj, rfl⟩ := List.mem_iff_getElem.1 hs
        have := hsh j _ hj (List.getElem?_eq_getElem hj)
        simp
        omega
      clear hr hsh
      go_wp2
      go_ret
      exact ⟨⟨_, rfl, by rw [HL.out]; simp⟩, rfl⟩
theorem containsLong {w : World} {F : Nat → Prop} {A : Option Addr} {cap : Nat} {l : List (List Int)} (hr : TextRow w F A l) (hll : l.length ≤ 9223372036854775807) :
    Calls Tryd.prog 48 #[.slice A l.length cap, .func (.func 49) #[] #[]] w fun e w' => e = .returned (.bool (longs l)) ∧ w = w' := by
  go_enter Tryd.func48, Tryd.ntmps48
  go_wp2_with fail
  refine (indexLong hr hll).mono ?_
  rintro e w1 ⟨⟨i, rfl, hi⟩, rfl⟩
  have HI := Lib.hid hi
  clear hi
  go_wp2
  go_ret
  exact ⟨by rw [← HI.out]; rfl, rfl⟩
set_option maxRecDepth 100000 in
theorem writer_List {w : World} {g base : Nat} {v : Value} {bs : List Int} {bad : Option Nat} (h : WriterAt w g base v bs bad) (hbase : base ≤ w.heap.size) {l : List (List Int)} {F : Nat → Prop} {A : Option Addr} {cap : Nat} (hr : TextRow w F A l) (hA : ∀ k, F k → v.ownBlock ≠ some k) (hF : ∀ k, F k → k < w.heap.size) (hll : l.length ≤ 9223372036854775807) (hb : bs.length + (listB l).length ≤ 1099511627776 ∨ 1024 < l.length ∨ longs l = true) :
    Calls Tryd.prog 18 #[.pointer (some ⟨g, 0, none⟩), .slice A l.length cap] w (Put1 w g base v bs bad (listO l)) := by
  have hf0 : Fr (fun _ => False) w ((w.alloc (Obj.cells #[.slice A l.length cap] 41)).alloc (Obj.cells #[.func (.func 47) #[] #[]] 79)) := ((Fr.refl _ _).alloc _).alloc _
  have h1 := h.fr hf0 id (fun _ _ => id)
  have hr1 := hr.fr hf0 (fun _ _ => id)
  have hx : ((w.alloc (Obj.cells #[.slice A l.length cap] 41)).alloc (Obj.cells #[.func (.func 47) #[] #[]] 79)).cell? ⟨w.heap.size, 0, none⟩ = some (.slice A l.length cap) := ((Blk.new w 41 #[.slice A l.length cap]).alloc _).cell 0
  have hy : ((w.alloc (Obj.cells #[.slice A l.length cap] 41)).alloc (Obj.cells #[.func (.func 47) #[] #[]] 79)).cell? ⟨w.heap.size + 1, 0, none⟩ = some (.func (.func 47) #[] #[]) := (Blk.new_ (w.alloc (Obj.cells #[.slice A l.length cap] 41)) 79 #[.func (.func 47) #[] #[]] (n := w.heap.size + 1) (by simp)).cell 0
  have hvx : v.ownBlock ≠ some w.heap.size := fun e => Nat.lt_irrefl _ (h.own.lt _ e)
  have hvy : v.ownBlock ≠ some (w.heap.size + 1) := fun e => by have := h.own.lt _ e; omega
  have HB := Lib.hid hb
  unfold Put1
  clear hb
  go_enter Tryd.func18, Tryd.ntmps18
  go_wp2_with fail
  refine (containsLong hr hll).mono ?_
  rintro e w1 ⟨rfl, rfl⟩
  clear hr
  cases bad with
  | some a =>
    have e : Hid (wput bs (some a) (listO l) = (bs, some a)) := by show _ = _; unfold listO; split <;> rfl
    cases hlg : longs l with
    | true =>
      by_cases hs : (l.length : Int) ≤ 1024
      · go_wp2_with (first
          | (go_at_call 50; refine (wire_rows_text _ _ _ _).mono ?_; rintro e w1 ⟨rfl, rfl⟩)
          | (go_at_call 35; refine (add_bad h1 _ _).mono ?_; rintro e w' ⟨v1, rfl, h2, hf2, hk2⟩))
        refine bodyPost_ret (v := .tuple #[]) (by simp [results, Tryd.results18, go_sem]) rfl ?_
        rw [e.out]
        exact Wrote.before ⟨v1, rfl, h2, hf2, hk2⟩ hf0
      · go_wp2_with (first
          | (go_at_call 50; refine (wire_rows_text _ _ _ _).mono ?_; rintro e w1 ⟨rfl, rfl⟩)
          | (go_at_call 35; refine (add_bad h1 _ _).mono ?_; rintro e w' ⟨v1, rfl, h2, hf2, hk2⟩))
        refine bodyPost_ret (v := .tuple #[]) (by simp [results, Tryd.results18, go_sem]) rfl ?_
        rw [e.out]
        exact Wrote.before ⟨v1, rfl, h2, hf2, hk2⟩ hf0
    | false =>
      by_cases hs : (l.length : Int) ≤ 1024
      · go_wp2_with (first
          | (go_at_call 50; refine (wire_rows_text _ _ _ _).mono ?_; rintro e w1 ⟨rfl, rfl⟩)
          | (go_at_call 35; refine (add_bad h1 _ _).mono ?_; rintro e w' ⟨v1, rfl, h2, hf2, hk2⟩))
        refine bodyPost_ret (v := .tuple #[]) (by simp [results, Tryd.results18, go_sem]) rfl ?_
        rw [e.out]
        exact Wrote.before ⟨v1, rfl, h2, hf2, hk2⟩ hf0
      · go_wp2_with (first
          | (go_at_call 50; refine (wire_rows_text _ _ _ _).mono ?_; rintro e w1 ⟨rfl, rfl⟩)
          | (go_at_call 35; refine (add_bad h1 _ _).mono ?_; rintro e w' ⟨v1, rfl, h2, hf2, hk2⟩))
        refine bodyPost_ret (v := .tuple #[]) (by simp [results, Tryd.results18, go_sem]) rfl ?_
        rw [e.out]
        exact Wrote.before ⟨v1, rfl, h2, hf2, hk2⟩ hf0
  | none =>
    cases hlg : longs l with
    | true =>
      have e : Hid (wput bs none (listO l) = (bs, some bs.length)) := by show _ = _; unfold listO; rw [if_neg (by simp [hlg])]; rfl
      by_cases hs : (l.length : Int) ≤ 1024
      · go_wp2_with (first
          | (go_at_call 50; refine (wire_rows_text _ _ _ _).mono ?_; rintro e w1 ⟨rfl, rfl⟩)
          | (go_at_call 35; refine (add_many h1 _).mono ?_; rintro e w' ⟨v1, rfl, h2, hf2, hk2⟩))
        refine bodyPost_ret (v := .tuple #[]) (by simp [results, Tryd.results18, go_sem]) rfl ?_
        rw [e.out]
        exact Wrote.before ⟨v1, rfl, h2, hf2, hk2⟩ hf0
      · go_wp2_with (first
          | (go_at_call 50; refine (wire_rows_text _ _ _ _).mono ?_; rintro e w1 ⟨rfl, rfl⟩)
          | (go_at_call 35; refine (add_many h1 _).mono ?_; rintro e w' ⟨v1, rfl, h2, hf2, hk2⟩))
        refine bodyPost_ret (v := .tuple #[]) (by simp [results, Tryd.results18, go_sem]) rfl ?_
        rw [e.out]
        exact Wrote.before ⟨v1, rfl, h2, hf2, hk2⟩ hf0
    | false =>
      by_cases hs : (l.length : Int) ≤ 1024
      · have e : Hid (wput bs none (listO l) = (bs ++ listB l, none)) := by show _ = _; unfold listO; rw [if_pos ⟨by omega, hlg⟩]; rfl
        have hbl : Hid (bs.length + (listB l).length ≤ 1099511627776) := by
          show _ ≤ _
          rcases HB.out with h | h | h
          · exact h
          · omega
          · rw [hlg] at h; cases h
        go_wp2_with (first
          | (go_at_call 50; refine (wire_rows_text _ _ _ _).mono ?_; rintro e w1 ⟨rfl, rfl⟩)
          | (go_at_call 35; refine (add_list h1 w.heap.size (w.heap.size + 1) (rows_text_1 h1.own hr1 hA (fun k hk => by have := hF k hk; simp; omega) (by simp; omega) hbl.out _ _ hx hy hvx hvy)).mono ?_; rintro e w' ⟨v1, rfl, h2, hf2, hk2⟩))
        refine bodyPost_ret (v := .tuple #[]) (by simp [results, Tryd.results18, go_sem]) rfl ?_
        rw [e.out]
        exact Wrote.before ⟨v1, rfl, h2, hf2, hk2⟩ hf0
      · have e : Hid (wput bs none (listO l) = (bs, some bs.length)) := by show _ = _; unfold listO; rw [if_neg (by omega)]; rfl
        go_wp2_with (first
          | (go_at_call 50; refine (wire_rows_text _ _ _ _).mono ?_; rintro e w1 ⟨rfl, rfl⟩)
          | (go_at_call 35; refine (add_many h1 _).mono ?_; rintro e w' ⟨v1, rfl, h2, hf2, hk2⟩))
        refine bodyPost_ret (v := .tuple #[]) (by simp [results, Tryd.results18, go_sem]) rfl ?_
        rw [e.out]
        exact Wrote.before ⟨v1, rfl, h2, hf2, hk2⟩ hf0
end Go.Proofs.YtkbcobbnjiekfaaDoor
