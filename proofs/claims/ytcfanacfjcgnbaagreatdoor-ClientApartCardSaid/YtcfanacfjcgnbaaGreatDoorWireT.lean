/- wire: the Writer's functions for texts and rows; Bytes. -/
import Derived.Test.YtcfanacfjcgnbaaGreatDoorWire
namespace Go.Proofs.YtcfanacfjcgnbaaGreatDoor
open Go Go.RowKit
def textB (s : List Int) : List Int := count4 s.length ++ s
def numsB (l : List Int) : List Int := count4 l.length ++ l.flatMap num8
def listB (l : List (List Int)) : List Int := count4 l.length ++ l.flatMap textB
theorem Grown.of_own {w w1 w2 : World} {base : Nat} {v v1 v2 : Value} {xs : List Int} (hf1 : Fr (fun k => v.ownBlock = some k) w w1) (hk1 : ∀ k, v1.ownBlock = some k → v.ownBlock = some k ∨ w.heap.size ≤ k)
    (h2 : Own8 w2 base v2 xs) (hf2 : Fr (fun k => v1.ownBlock = some k) w1 w2) (hk2 : v2.ownBlock = v1.ownBlock ∨ v2.ownBlock = some w1.heap.size) : Grown w base v xs (.returned v2) w2 := by
  refine ⟨v2, rfl, h2, hf1.trans hf2 (fun k hlt hk => (hk1 k hk).resolve_right (by omega)), ?_⟩
  intro k hk
  rcases hk2 with h | h
  · exact hk1 k (h ▸ hk)
  · rw [hk] at h
    cases h
    exact .inr hf1.size
theorem wire_short {w : World} (A : Option Addr) (n cap : Nat) : Calls Tryz.prog 72 #[.slice A n cap] w fun e w' => e = .returned (.bool (decide (n ≤ 65536))) ∧ w = w' := by
  go_enter Tryz.func72, Tryz.ntmps72
  go_wp2
  go_ret
  exact ⟨by simp; omega, rfl⟩
set_option maxRecDepth 100000 in
theorem wire_text {w : World} {base : Nat} {v : Value} {bs s : List Int} {F : Nat → Prop} {A : Option Addr} {cap : Nat} (h : Own8 w base v bs) (hr : ByteRow w F A s) (hA : ∀ k, F k → v.ownBlock ≠ some k) (hbase : base ≤ w.heap.size) (hb : bs.length + 4 + s.length ≤ 1099511627776) :
    Calls Tryz.prog 74 #[v, .slice A s.length cap] w (Grown w base v (bs ++ textB s)) := by
  have HB : Hid (bs.length + 4 + s.length ≤ 1099511627776) := hb
  go_enter Tryz.func74, Tryz.ntmps74
  go_wp2_with (first
    | (go_at_call 83; refine (wire_count h hbase (by omega) _).mono ?_; rintro e w1 ⟨v1, rfl, h1, hf1, hk1⟩)
    | (at_builtin; refine wpList_append_text rfl (.tmp 8) (.tmp 9) rfl base v1 _ rfl h1 F A s.length cap s rfl rfl (hr.fr hf1 hA) (by have := HB.out; simp [count4]; omega) (by have := hf1.size; omega) ?_; intro v2 w2 h2 hf2 hk2))
  go_ret
  exact Grown.of_own hf1 hk1 (by rw [textB, ← List.append_assoc]; exact h2) hf2 hk2
theorem text1 {w : World} {base : Nat} {v : Value} {bs s : List Int} {F : Nat → Prop} {A : Option Addr} {cap : Nat} (h : Own8 w base v bs) (hr : ByteRow w F A s) (hA : ∀ k, F k → v.ownBlock ≠ some k) (hbase : base ≤ w.heap.size) (hb : bs.length + 4 + s.length ≤ 1099511627776)
    (bx : Nat) (hx : w.cell? ⟨bx, 0, none⟩ = some (.slice A s.length cap)) :
    Calls Tryz.prog 73 #[v, .pointer (some ⟨bx, 0, none⟩)] w (Grown w base v (bs ++ textB s)) := by
  go_enter Tryz.func73, Tryz.ntmps73
  go_wp2_with fail
  refine (wire_text h hr hA hbase hb).mono ?_
  rintro e w' ⟨v', rfl, h1, h2, h3⟩
  go_wp2
  go_ret
  exact ⟨_, rfl, h1, h2, h3⟩
set_option maxRecDepth 100000 in
theorem writer_Text {w : World} {g base : Nat} {v : Value} {bs : List Int} {bad : Option Nat} (h : WriterAt w g base v bs bad) (hbase : base ≤ w.heap.size) {s : List Int} {F : Nat → Prop} {A : Option Addr} {cap : Nat} (hr : ByteRow w F A s) (hA : ∀ k, F k → v.ownBlock ≠ some k) (hb : bs.length + 4 + s.length ≤ 1099511627776) :
    Calls Tryz.prog 60 #[.pointer (some ⟨g, 0, none⟩), .slice A s.length cap] w (Put1 w g base v bs bad (if s.length ≤ 65536 then some (textB s) else none)) := by
  have hf0 : Fr (fun _ => False) w (w.alloc (Obj.cells #[.slice A s.length cap] 60)) := (Fr.refl _ _).alloc _
  have h1 := h.fr hf0 id (fun _ _ => id)
  have hr1 := hr.fr hf0 (fun _ _ => id)
  have hx := (Blk.new w 60 #[.slice A s.length cap]).cell 0
  have HB : Hid (bs.length + 4 + s.length ≤ 1099511627776) := hb
  unfold Put1
  cases bad with
  | some a =>
    have e : wput bs (some a) (if s.length ≤ 65536 then some (textB s) else none) = (bs, some a) := by split <;> rfl
    rw [e]
    go_enter Tryz.func60, Tryz.ntmps60
    go_wp2_with (first
      | (go_at_call 72; refine (wire_short _ _ _).mono ?_; rintro e w1 ⟨rfl, rfl⟩)
      | (go_at_call 69; refine (add_bad h1 _ _).mono ?_; rintro e w' ⟨v1, rfl, h2, hf2, hk2⟩))
    refine bodyPost_ret (v := .tuple #[]) (by simp [results, Tryz.results60, go_sem]) rfl ?_
    exact Wrote.before ⟨v1, rfl, h2, hf2, hk2⟩ hf0
  | none =>
    by_cases hs : s.length ≤ 65536
    · rw [if_pos hs]
      have hd : decide (s.length ≤ 65536) = true := decide_eq_true hs
      simp only [wput]
      clear hs
      go_enter Tryz.func60, Tryz.ntmps60
      go_wp2_with (first
        | (go_at_call 72; refine (wire_short _ _ _).mono ?_; rintro e w1 ⟨rfl, rfl⟩; rw [hd])
        | (go_at_call 69; refine (add_text h1 w.heap.size (text1 h1.own hr1 hA (by simp; omega) HB.out w.heap.size hx)).mono ?_; rintro e w' ⟨v1, rfl, h2, hf2, hk2⟩))
      refine bodyPost_ret (v := .tuple #[]) (by simp [results, Tryz.results60, go_sem]) rfl ?_
      exact Wrote.before ⟨v1, rfl, h2, hf2, hk2⟩ hf0
    · rw [if_neg hs]
      have hd : decide (s.length ≤ 65536) = false := decide_eq_false hs
      simp only [wput]
      clear hs
      go_enter Tryz.func60, Tryz.ntmps60
      go_wp2_with (first
        | (go_at_call 72; refine (wire_short _ _ _).mono ?_; rintro e w1 ⟨rfl, rfl⟩; rw [hd])
        | (go_at_call 69; refine (add_many h1 _).mono ?_; rintro e w' ⟨v1, rfl, h2, hf2, hk2⟩))
      refine bodyPost_ret (v := .tuple #[]) (by simp [results, Tryz.results60, go_sem]) rfl ?_
      exact Wrote.before ⟨v1, rfl, h2, hf2, hk2⟩ hf0
end Go.Proofs.YtcfanacfjcgnbaaGreatDoor
