/- say: between, Check; cohortref11: Right. -/
import Derived.Test.YtcfanacfjcgnbaaGreatDoorStrB
import Derived.Test.YtcfanacfjcgnbaaGreatDoorAppend
namespace Go.Proofs.YtcfanacfjcgnbaaGreatDoor
open Go Go.RowKit
structure SayD where
  kind : Int
  txn : Int
  yes : Bool
  from_ : ByteArray
  to_ : ByteArray
  epoch : Int
  shard : Int
  target : Int
  root : Int
def sayCells (s : SayD) : Array Value := #[.int .i64 s.kind, .int .i64 s.txn, .bool s.yes, .string s.from_, .string s.to_, .int .i64 s.epoch, .int .i64 s.shard, .int .i64 s.target, .int .i64 s.root]
def OkSay (s : SayD) : Prop := ¬ s.kind < 1 ∧ ¬ 9 < s.kind ∧ ¬ s.txn < 0 ∧ ¬ 2147483647 < s.txn ∧ ¬ s.root < 0 ∧ ¬ 2147483647 < s.root ∧ ¬ (16 : Int) < s.from_.size ∧ ¬ (16 : Int) < s.to_.size ∧ ¬ s.epoch < 0 ∧ ¬ 1099511627776 < s.epoch ∧ ¬ s.shard < 0 ∧ ¬ 3 < s.shard ∧ ¬ s.target < 0 ∧ ¬ 3 < s.target
instance (s : SayD) : Decidable (OkSay s) := by unfold OkSay; infer_instance
def Bool1 (w : World) (b : Bool) (e : Ending) (w' : World) : Prop := e = .returned (.bool b) ∧ Fr (fun _ => False) w w'
/-- Two numbers in a row. -/
def TwoAt (w : World) (g : Nat) (a b : Int) : Prop := w.cell? ⟨g, 0, none⟩ = some (.int .i64 a) ∧ w.cell? ⟨g, 1, none⟩ = some (.int .i64 b)
theorem two_new (w : World) (e : TypeId) (a b : Int) {n : Nat} (hn : n = w.heap.size) : TwoAt (w.alloc (.cells #[.int .i64 a, .int .i64 b] e)) n a b :=
  ⟨(Blk.new_ w e #[.int .i64 a, .int .i64 b] hn).cell 0, (Blk.new_ w e #[.int .i64 a, .int .i64 b] hn).cell 1⟩
theorem slices_Min2 {w : World} {g : Nat} {a b : Int} (h : TwoAt w g a b) : Calls Tryz.prog 85 #[.slice (some ⟨g, 0, none⟩) 2 2] w fun e w' => e = .returned (.int .i64 (min a b)) ∧ w = w' := by
  obtain ⟨h0, h1⟩ := h
  go_enter Tryz.func85, Tryz.ntmps85
  go_wp2_with fail
  go_loopw [3, 4] (fun m i wr => ((i = .int .i64 1 ∧ m = .int .i64 a) ∨ (i = .int .i64 2 ∧ m = .int .i64 (min a b))) ∧ w = wr) (fun _ i _ => 2 - (intOf i).toNat)
  case atStart => exact ⟨.inl ⟨rfl, rfl⟩, rfl⟩
  case round =>
    obtain ⟨⟨rfl, rfl⟩ | ⟨rfl, rfl⟩, rfl⟩ := hrel
    · by_cases hab : a ≤ b
      · have hmin : min a b = a := by omega
        go_wp2_with fail
        go_roundw
        case rel => exact ⟨.inr ⟨rfl, by first | (rw [hmin]; done) | (rw [hmin]; congr 1; split <;> omega)⟩, by trivial⟩
        case measure => simp [intOf]
      · have hmin : min a b = b := by omega
        go_wp2_with fail
        go_roundw
        case rel => exact ⟨.inr ⟨rfl, by first | (rw [hmin]; done) | (rw [hmin]; congr 1; split <;> omega)⟩, by trivial⟩
        case measure => simp [intOf]
    · go_wp2
      go_ret
      exact ⟨rfl, rfl⟩
theorem slices_Max2 {w : World} {g : Nat} {a b : Int} (h : TwoAt w g a b) : Calls Tryz.prog 86 #[.slice (some ⟨g, 0, none⟩) 2 2] w fun e w' => e = .returned (.int .i64 (max a b)) ∧ w = w' := by
  obtain ⟨h0, h1⟩ := h
  go_enter Tryz.func86, Tryz.ntmps86
  go_wp2_with fail
  go_loopw [3, 4] (fun m i wr => ((i = .int .i64 1 ∧ m = .int .i64 a) ∨ (i = .int .i64 2 ∧ m = .int .i64 (max a b))) ∧ w = wr) (fun _ i _ => 2 - (intOf i).toNat)
  case atStart => exact ⟨.inl ⟨rfl, rfl⟩, rfl⟩
  case round =>
    obtain ⟨⟨rfl, rfl⟩ | ⟨rfl, rfl⟩, rfl⟩ := hrel
    · by_cases hab : a ≤ b
      · have hmax : max a b = b := by omega
        go_wp2_with fail
        go_roundw
        case rel => exact ⟨.inr ⟨rfl, by first | (rw [hmax]; done) | (rw [hmax]; congr 1; split <;> omega)⟩, by trivial⟩
        case measure => simp [intOf]
      · have hmax : max a b = a := by omega
        go_wp2_with fail
        go_roundw
        case rel => exact ⟨.inr ⟨rfl, by first | (rw [hmax]; done) | (rw [hmax]; congr 1; split <;> omega)⟩, by trivial⟩
        case measure => simp [intOf]
    · go_wp2
      go_ret
      exact ⟨rfl, rfl⟩
def In2 (top a b : Int) : Bool := decide (0 ≤ min a b) && decide (max a b ≤ top)
theorem in2_iff (top a b : Int) : In2 top a b = true ↔ ¬ a < 0 ∧ ¬ b < 0 ∧ ¬ top < a ∧ ¬ top < b := by
  unfold In2
  simp only [Bool.and_eq_true, decide_eq_true_eq]
  omega
theorem say_between {w : World} {g : Nat} {a b : Int} (top : Int) (h : TwoAt w g a b) : Calls Tryz.prog 84 #[.int .i64 top, .slice (some ⟨g, 0, none⟩) 2 2] w fun e w' => e = .returned (.bool (In2 top a b)) ∧ w = w' := by
  have HT := Lib.hid h
  clear h
  unfold In2
  obtain ⟨x, hx⟩ : ∃ x, Hid (min a b = x) := ⟨_, rfl⟩
  obtain ⟨y, hy⟩ : ∃ y, Hid (max a b = y) := ⟨_, rfl⟩
  have H1 := Lib.hid (slices_Min2 HT.out)
  have H2 := Lib.hid (slices_Max2 HT.out)
  rw [hx.out] at H1
  rw [hy.out] at H2
  rw [hx.out, hy.out]
  by_cases h0 : 0 ≤ x
  · go_enter Tryz.func84, Tryz.ntmps84
    go_wp2_with (first | (go_at_call 85; refine H1.out.mono ?_; rintro e w' ⟨rfl, rfl⟩) | (go_at_call 86; refine H2.out.mono ?_; rintro e w' ⟨rfl, rfl⟩))
    go_ret
    exact ⟨by simp [h0], rfl⟩
  · go_enter Tryz.func84, Tryz.ntmps84
    go_wp2_with (first | (go_at_call 85; refine H1.out.mono ?_; rintro e w' ⟨rfl, rfl⟩) | (go_at_call 86; refine H2.out.mono ?_; rintro e w' ⟨rfl, rfl⟩))
    go_ret
    exact ⟨by rw [decide_eq_false (p := 0 ≤ x) (by omega)]; rfl, rfl⟩
set_option maxRecDepth 100000 in
set_option maxHeartbeats 2000000 in
theorem ref11_Right1 (w : World) (kind txn : Int) (yes : Bool) (fr to : ByteArray) (epoch shard target root : Int) :
    Calls Tryz.prog 33 #[.agg #[.int .i64 kind, .int .i64 txn, .bool yes, .string fr, .string to, .int .i64 epoch, .int .i64 shard, .int .i64 target, .int .i64 root]] w (Bool1 w (decide (OkSay ⟨kind, txn, yes, fr, to, epoch, shard, target, root⟩))) := by
  by_cases b0 : kind < 1
  · rw [decide_eq_false (show ¬ OkSay ⟨kind, txn, yes, fr, to, epoch, shard, target, root⟩ from fun h => by unfold OkSay at h; exact absurd b0 (by first | exact h.1 | exact (by obtain ⟨a0, a1, a2, a3, a4, a5, a6, a7, a8, a9, a10, a11, a12, a13⟩ := h; exact a0)))]
    go_enter Tryz.func33, Tryz.ntmps33
    go_wp2
    go_ret
    exact ⟨by first | rfl | (simp; omega), (Fr.refl _ _).alloc _⟩
  ·
    by_cases b1 : 9 < kind
    · rw [decide_eq_false (show ¬ OkSay ⟨kind, txn, yes, fr, to, epoch, shard, target, root⟩ from fun h => by unfold OkSay at h; exact absurd b1 (by first | exact h.1 | exact (by obtain ⟨a0, a1, a2, a3, a4, a5, a6, a7, a8, a9, a10, a11, a12, a13⟩ := h; exact a1)))]
      go_enter Tryz.func33, Tryz.ntmps33
      go_wp2
      go_ret
      exact ⟨by first | rfl | (simp; omega), (Fr.refl _ _).alloc _⟩
    ·
      by_cases b2 : txn < 0
      · rw [decide_eq_false (show ¬ OkSay ⟨kind, txn, yes, fr, to, epoch, shard, target, root⟩ from fun h => by unfold OkSay at h; exact absurd b2 (by first | exact h.1 | exact (by obtain ⟨a0, a1, a2, a3, a4, a5, a6, a7, a8, a9, a10, a11, a12, a13⟩ := h; exact a2)))]
        go_enter Tryz.func33, Tryz.ntmps33
        go_wp2
        go_ret
        exact ⟨by first | rfl | (simp; omega), (Fr.refl _ _).alloc _⟩
      ·
        by_cases b3 : 2147483647 < txn
        · rw [decide_eq_false (show ¬ OkSay ⟨kind, txn, yes, fr, to, epoch, shard, target, root⟩ from fun h => by unfold OkSay at h; exact absurd b3 (by first | exact h.1 | exact (by obtain ⟨a0, a1, a2, a3, a4, a5, a6, a7, a8, a9, a10, a11, a12, a13⟩ := h; exact a3)))]
          go_enter Tryz.func33, Tryz.ntmps33
          go_wp2
          go_ret
          exact ⟨by first | rfl | (simp; omega), (Fr.refl _ _).alloc _⟩
        ·
          by_cases b4 : root < 0
          · rw [decide_eq_false (show ¬ OkSay ⟨kind, txn, yes, fr, to, epoch, shard, target, root⟩ from fun h => by unfold OkSay at h; exact absurd b4 (by first | exact h.1 | exact (by obtain ⟨a0, a1, a2, a3, a4, a5, a6, a7, a8, a9, a10, a11, a12, a13⟩ := h; exact a4)))]
            go_enter Tryz.func33, Tryz.ntmps33
            go_wp2
            go_ret
            exact ⟨by first | rfl | (simp; omega), (Fr.refl _ _).alloc _⟩
          ·
            by_cases b5 : 2147483647 < root
            · rw [decide_eq_false (show ¬ OkSay ⟨kind, txn, yes, fr, to, epoch, shard, target, root⟩ from fun h => by unfold OkSay at h; exact absurd b5 (by first | exact h.1 | exact (by obtain ⟨a0, a1, a2, a3, a4, a5, a6, a7, a8, a9, a10, a11, a12, a13⟩ := h; exact a5)))]
              go_enter Tryz.func33, Tryz.ntmps33
              go_wp2
              go_ret
              exact ⟨by first | rfl | (simp; omega), (Fr.refl _ _).alloc _⟩
            ·
              by_cases b6 : (16 : Int) < fr.size
              · rw [decide_eq_false (show ¬ OkSay ⟨kind, txn, yes, fr, to, epoch, shard, target, root⟩ from fun h => by unfold OkSay at h; exact absurd b6 (by first | exact h.1 | exact (by obtain ⟨a0, a1, a2, a3, a4, a5, a6, a7, a8, a9, a10, a11, a12, a13⟩ := h; exact a6)))]
                go_enter Tryz.func33, Tryz.ntmps33
                go_wp2
                go_ret
                exact ⟨by first | rfl | (simp; omega), (Fr.refl _ _).alloc _⟩
              ·
                by_cases b7 : (16 : Int) < to.size
                · rw [decide_eq_false (show ¬ OkSay ⟨kind, txn, yes, fr, to, epoch, shard, target, root⟩ from fun h => by unfold OkSay at h; exact absurd b7 (by first | exact h.1 | exact (by obtain ⟨a0, a1, a2, a3, a4, a5, a6, a7, a8, a9, a10, a11, a12, a13⟩ := h; exact a7)))]
                  go_enter Tryz.func33, Tryz.ntmps33
                  go_wp2
                  go_ret
                  exact ⟨by first | rfl | (simp; omega), (Fr.refl _ _).alloc _⟩
                ·
                  by_cases b8 : epoch < 0
                  · rw [decide_eq_false (show ¬ OkSay ⟨kind, txn, yes, fr, to, epoch, shard, target, root⟩ from fun h => by unfold OkSay at h; exact absurd b8 (by first | exact h.1 | exact (by obtain ⟨a0, a1, a2, a3, a4, a5, a6, a7, a8, a9, a10, a11, a12, a13⟩ := h; exact a8)))]
                    go_enter Tryz.func33, Tryz.ntmps33
                    go_wp2
                    go_ret
                    exact ⟨by first | rfl | (simp; omega), (Fr.refl _ _).alloc _⟩
                  ·
                    by_cases b9 : 1099511627776 < epoch
                    · rw [decide_eq_false (show ¬ OkSay ⟨kind, txn, yes, fr, to, epoch, shard, target, root⟩ from fun h => by unfold OkSay at h; exact absurd b9 (by first | exact h.1 | exact (by obtain ⟨a0, a1, a2, a3, a4, a5, a6, a7, a8, a9, a10, a11, a12, a13⟩ := h; exact a9)))]
                      go_enter Tryz.func33, Tryz.ntmps33
                      go_wp2
                      go_ret
                      exact ⟨by first | rfl | (simp; omega), (Fr.refl _ _).alloc _⟩
                    ·
                      by_cases b10 : shard < 0
                      · rw [decide_eq_false (show ¬ OkSay ⟨kind, txn, yes, fr, to, epoch, shard, target, root⟩ from fun h => by unfold OkSay at h; exact absurd b10 (by first | exact h.1 | exact (by obtain ⟨a0, a1, a2, a3, a4, a5, a6, a7, a8, a9, a10, a11, a12, a13⟩ := h; exact a10)))]
                        go_enter Tryz.func33, Tryz.ntmps33
                        go_wp2
                        go_ret
                        exact ⟨by first | rfl | (simp; omega), (Fr.refl _ _).alloc _⟩
                      ·
                        by_cases b11 : 3 < shard
                        · rw [decide_eq_false (show ¬ OkSay ⟨kind, txn, yes, fr, to, epoch, shard, target, root⟩ from fun h => by unfold OkSay at h; exact absurd b11 (by first | exact h.1 | exact (by obtain ⟨a0, a1, a2, a3, a4, a5, a6, a7, a8, a9, a10, a11, a12, a13⟩ := h; exact a11)))]
                          go_enter Tryz.func33, Tryz.ntmps33
                          go_wp2
                          go_ret
                          exact ⟨by first | rfl | (simp; omega), (Fr.refl _ _).alloc _⟩
                        ·
                          by_cases b12 : target < 0
                          · rw [decide_eq_false (show ¬ OkSay ⟨kind, txn, yes, fr, to, epoch, shard, target, root⟩ from fun h => by unfold OkSay at h; exact absurd b12 (by first | exact h.1 | exact (by obtain ⟨a0, a1, a2, a3, a4, a5, a6, a7, a8, a9, a10, a11, a12, a13⟩ := h; exact a12)))]
                            go_enter Tryz.func33, Tryz.ntmps33
                            go_wp2
                            go_ret
                            exact ⟨by first | rfl | (simp; omega), (Fr.refl _ _).alloc _⟩
                          ·
                            by_cases b13 : 3 < target
                            · rw [decide_eq_false (show ¬ OkSay ⟨kind, txn, yes, fr, to, epoch, shard, target, root⟩ from fun h => by unfold OkSay at h; exact absurd b13 (by first | exact h.1 | exact (by obtain ⟨a0, a1, a2, a3, a4, a5, a6, a7, a8, a9, a10, a11, a12, a13⟩ := h; exact a13)))]
                              go_enter Tryz.func33, Tryz.ntmps33
                              go_wp2
                              go_ret
                              exact ⟨by first | rfl | (simp; omega), (Fr.refl _ _).alloc _⟩
                            ·
                              rw [decide_eq_true (show OkSay ⟨kind, txn, yes, fr, to, epoch, shard, target, root⟩ from ⟨b0, b1, b2, b3, b4, b5, b6, b7, b8, b9, b10, b11, b12, b13⟩)]
                              go_enter Tryz.func33, Tryz.ntmps33
                              go_wp2
                              go_ret
                              exact ⟨by first | rfl | (simp; omega), (Fr.refl _ _).alloc _⟩
end Go.Proofs.YtcfanacfjcgnbaaGreatDoor
