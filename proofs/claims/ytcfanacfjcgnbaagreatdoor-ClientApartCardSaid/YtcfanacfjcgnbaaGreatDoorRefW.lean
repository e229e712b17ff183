/- cohortref02: the document's Writer. -/
import Derived.Test.YtcfanacfjcgnbaaGreatDoorWireL
import Derived.Test.YtcfanacfjcgnbaaGreatDoorWireB
namespace Go.Proofs.YtcfanacfjcgnbaaGreatDoor
open Go Go.RowKit
set_option maxRecDepth 100000 in
theorem ref02_four (w : World) (n : Int) : Calls Tryz.prog 53 #[.int .i64 n] w (Fresh w (count4 n)) := by
  go_enter Tryz.func53, Tryz.ntmps53
  go_wp2
  go_ret
  exact ⟨.slice (some ⟨w.heap.size, 0, none⟩) 4 4, rfl, Own8.built w (Nat.le_refl _) (count4 n) (by rw [count4_length]; decide) 4 rfl, (Fr.refl _ _).alloc _⟩
set_option maxRecDepth 100000 in
theorem ref02_eight (w : World) (n : Int) : Calls Tryz.prog 51 #[.int .i64 n] w (Fresh w (num8 n)) := by
  go_enter Tryz.func51, Tryz.ntmps51
  go_wp2_with fail
  go_loopw [3, 4] (fun b i wr => ∃ j : Nat, j ≤ 8 ∧ i = .int .i64 (56 - 8 * (j : Int)) ∧ Own8 wr w.heap.size b ((num8 n).take j) ∧ Fr (fun _ => False) w wr) (fun b i _ => (intOf i + 8).toNat)
  case atStart => exact ⟨0, by omega, rfl, Own8.nil _ _, Fr.refl _ _⟩
  case round =>
    obtain ⟨j, hj, rfl, hown, hf⟩ := hrel
    by_cases hlt : j < 8
    · have h0 : (0 : Int) ≤ 56 - 8 * (j : Int) := by omega
      go_wp2_with (at_builtin; refine wpList_append_bytes rfl (.tmp 9) (.tmp 14) rfl w.heap.size u3 ((num8 n).take j) rfl (hown.alloc _) wr.heap.size 0 1 1 [n / 2 ^ (56 - 8 * j) % 256] rfl rfl (ByteAt.new wr [n / 2 ^ (56 - 8 * j) % 256]) (by decide) (by simp [num8_length]; omega) (by have := hf.size; simp; omega) ?_; intro g2 c2 w2 hown2 hf2 hg2)
      go_roundw
      case rel =>
        have hfb : Fr (fun k => u3.ownBlock = some k) wr w2 := ((Fr.refl (fun k => u3.ownBlock = some k) wr).alloc _).trans hf2 (fun k _ h => h)
        exact ⟨j + 1, by omega, by go_num, by rw [num8_take hlt]; exact hown2.len (by simp), hf.own hown hfb (Nat.le_refl _)⟩
      case measure => simp [intOf]; omega
    · obtain rfl : j = 8 := by omega
      go_wp2
      go_ret
      exact ⟨_, rfl, by simpa [num8_length, List.take_of_length_le] using hown, hf⟩
def badC : Option Nat → Int
  | none => 0
  | some _ => 2
def badA : Option Nat → Int
  | none => 0
  | some a => a
structure RefW (w : World) (g base : Nat) (v : Value) (bs : List Int) (bad : Option Nat) : Prop where
  blk : Blk w g 90 #[v, .int .i64 (badC bad), .int .i64 (badA bad)]
  own : Own8 w base v bs
theorem RefW.fr {S : Nat → Prop} {w w' : World} {g base : Nat} {v : Value} {bs : List Int} {bad : Option Nat} (h : RefW w g base v bs bad) (hf : Fr S w w') (hg : ¬ S g) (hv : ∀ k, v.ownBlock = some k → ¬ S k) : RefW w' g base v bs bad :=
  ⟨h.blk.fr hf hg, h.own.fr hf hv⟩
def RWrote (w : World) (g base : Nat) (v : Value) (bs : List Int) (bad : Option Nat) (e : Ending) (w' : World) : Prop :=
  ∃ v', e = .returned (.tuple #[]) ∧ RefW w' g base v' bs bad ∧ Fr (fun k => k = g ∨ v.ownBlock = some k) w w' ∧ ∀ k, v'.ownBlock = some k → v.ownBlock = some k ∨ w.heap.size ≤ k
theorem refw_bad {w : World} {g base : Nat} {v : Value} {bs : List Int} {bad : Option Nat} (h : RefW w g base v bs bad) :
    Calls Tryz.prog 52 #[.pointer (some ⟨g, 0, none⟩)] w (RWrote w g base v bs (some (bad.getD bs.length))) := by
  obtain ⟨A, cap, rfl, _, _⟩ := h.own.form
  have c0 : w.cell? ⟨g, 0, none⟩ = some (.slice A bs.length cap) := h.blk.cell 0
  have z1 := h.blk.frozen 1
  have z2 := h.blk.frozen 2
  cases bad with
  | some a =>
    have c1 : w.cell? ⟨g, 1, none⟩ = some (.int .i64 2) := h.blk.cell 1
    go_enter Tryz.func52, Tryz.ntmps52
    go_wp2
    refine bodyPost_ret (v := .tuple #[]) (by simp [results, Tryz.results52, go_sem]) rfl ?_
    exact ⟨_, rfl, h, Fr.refl _ _, fun k hk => .inl hk⟩
  | none =>
    have c1 : w.cell? ⟨g, 1, none⟩ = some (.int .i64 0) := h.blk.cell 1
    have c2 : w.cell? ⟨g, 2, none⟩ = some (.int .i64 0) := h.blk.cell 2
    go_enter Tryz.func52, Tryz.ntmps52
    go_wp2
    refine bodyPost_ret (v := .tuple #[]) (by simp [results, Tryz.results52, go_sem]) rfl ?_
    exact ⟨_, rfl, ⟨(h.blk.set_ 1 (.int .i64 2)).set_ 2 (.int .i64 bs.length), (h.own.setCell h.blk (by decide) _).setCell (h.blk.set_ 1 (.int .i64 2)) (by decide) _⟩,
      ((Fr.refl (fun k => k = g ∨ (Value.slice A bs.length cap).ownBlock = some k) w).setCell (p := ⟨g, 1, none⟩) (fun _ => .inl rfl) _).setCell (p := ⟨g, 2, none⟩) (fun _ => .inl rfl) _, fun k hk => .inl hk⟩
theorem refw_done {w w1 w2 : World} {g base : Nat} {v v2 : Value} {bs ys : List Int} (h : RefW w g base v bs none) (hf1 : Fr (fun _ => False) w.drew w1) (h2 : Own8 w2 base v2 ys) (hf2 : Fr (fun k => v.ownBlock = some k) w1 w2) (hk2 : v2.ownBlock = v.ownBlock ∨ ∃ k, v2.ownBlock = some k ∧ w.heap.size ≤ k) :
    RWrote w g base v ys none (.returned (.tuple #[])) (w2.setCell ⟨g, 0, none⟩ v2) := by
  have hb1 := h.blk.drew.fr hf1 id
  have hb2 := hb1.fr hf2 ((h.own.drew.fr hf1 (fun _ _ => id)).ne_blk hb1 (by decide))
  have hf : Fr (fun k => k = g ∨ v.ownBlock = some k) w (w2.setCell ⟨g, 0, none⟩ v2) :=
    Fr.setCell (p := ⟨g, 0, none⟩) ((((Fr.refl (fun k => k = g ∨ v.ownBlock = some k) w).drew).trans hf1 (fun _ _ h => h.elim)).trans hf2 (fun _ _ h => .inr h)) (fun _ => .inl rfl) _
  refine ⟨v2, rfl, ⟨hb2.set_ 0 v2, h2.setCell hb2 (by decide) _⟩, hf, fun k hk => ?_⟩
  rcases hk2 with h3 | ⟨j, h3, h4⟩
  · exact .inl (h3 ▸ hk)
  · rw [hk] at h3
    cases h3
    exact .inr h4
set_option maxRecDepth 100000 in
theorem refw_Num {w : World} {g base : Nat} {v : Value} {bs : List Int} {bad : Option Nat} (h : RefW w g base v bs bad) (hbase : base ≤ w.heap.size) (hb : bs.length + 8 ≤ 1099511627776) (n : Int) :
    Calls Tryz.prog 34 #[.pointer (some ⟨g, 0, none⟩), .int .i64 n] w (RWrote w g base v (wput bs bad (some (num8 n))).1 (wput bs bad (some (num8 n))).2) := by
  cases bad with
  | some a =>
    have c1 : w.cell? ⟨g, 1, none⟩ = some (.int .i64 2) := h.blk.cell 1
    simp only [wput]
    go_enter Tryz.func34, Tryz.ntmps34
    go_wp2
    refine bodyPost_ret (v := .tuple #[]) (by simp [results, Tryz.results34, go_sem]) rfl ?_
    exact ⟨_, rfl, h, Fr.refl _ _, fun k hk => .inl hk⟩
  | none =>
    obtain ⟨A, cap, rfl, _, _⟩ := h.own.form
    have c0 : w.cell? ⟨g, 0, none⟩ = some (.slice A bs.length cap) := h.blk.cell 0
    have c1 : w.cell? ⟨g, 1, none⟩ = some (.int .i64 0) := h.blk.cell 1
    simp only [wput]
    obtain ⟨ys, hys⟩ : ∃ ys, bs ++ num8 n = ys := ⟨_, rfl⟩
    rw [hys]
    go_enter Tryz.func34, Tryz.ntmps34
    go_wp2_with fail
    go_region_law (first | (refine step_append_text rfl (.tmp 13) (.tmp 15) rfl base (.slice A bs.length cap) bs (by rfl) ho1 (fun k => (Value.slice A1 (num8 n).length p1).ownBlock = some k) A1 (num8 n).length p1 (num8 n) (by rfl) rfl hr1 hb hbs1 ?_; intro v2 w2 h2 hf2 hk2; rw [hys] at h2; obtain ⟨A2, p2, rfl, _, _⟩ := h2.form; have hb2 := hb1.fr hf2 (ho1.ne_blk hb1 (by decide)); have d0 := hb2.cell 0; have z0 := hb2.frozen 0) | (go_simp; go_at_call 51; refine (ref02_eight _ n).mono ?_; rintro e w1 ⟨v1, rfl, h1, hf1⟩; obtain ⟨A1, p1, rfl, _, hr1⟩ := h1.form; have ho1 := h.own.drew.fr hf1 (fun _ _ => id); have hbs1 : base ≤ w1.heap.size := Nat.le_trans hbase hf1.size; have hb1 := h.blk.drew.fr hf1 id; have c01 : w1.cell? ⟨g, 0, none⟩ = some (.slice A bs.length cap) := hb1.cell 0))
    all_goals refine bodyPost_ret (v := .tuple #[]) (by simp [results, Tryz.results34, go_sem]) rfl ?_
    all_goals exact refw_done h hf1 h2 hf2 (hk2.imp_right fun e => ⟨_, e, hf1.size⟩)
theorem grow_two {w1 w2 w3 : World} {v v2 : Value} (hf2 : Fr (fun k => v.ownBlock = some k) w1 w2) (hk2 : v2.ownBlock = v.ownBlock ∨ v2.ownBlock = some w1.heap.size) (hf3 : Fr (fun k => v2.ownBlock = some k) w2 w3) : Fr (fun k => v.ownBlock = some k) w1 w3 :=
  hf2.trans hf3 (fun k hk h => by
    rcases hk2 with e | e
    · exact e ▸ h
    · rw [h] at e
      cases e
      exact absurd hk (Nat.lt_irrefl _))
theorem grow_own {w w1 w2 : World} {v v2 v3 : Value} (h1 : w.heap.size ≤ w1.heap.size) (h2 : w1.heap.size ≤ w2.heap.size) (hk2 : v2.ownBlock = v.ownBlock ∨ v2.ownBlock = some w1.heap.size) (hk3 : v3.ownBlock = v2.ownBlock ∨ v3.ownBlock = some w2.heap.size) : v3.ownBlock = v.ownBlock ∨ ∃ k, v3.ownBlock = some k ∧ w.heap.size ≤ k := by
  rcases hk3 with e | e
  · rcases hk2 with e2 | e2
    · exact .inl (e.trans e2)
    · exact .inr ⟨_, e.trans e2, h1⟩
  · exact .inr ⟨_, e, Nat.le_trans h1 h2⟩
theorem wput_none (bs : List Int) (bad : Option Nat) : wput bs bad none = (bs, some (bad.getD bs.length)) := by cases bad <;> rfl
set_option maxRecDepth 100000 in
set_option maxHeartbeats 400000 in
theorem refw_Text {w : World} {g base : Nat} {v : Value} {bs : List Int} {bad : Option Nat} (h : RefW w g base v bs bad) (hbase : base ≤ w.heap.size) {s : List Int} {F : Nat → Prop} {A : Option Addr} {cap : Nat} (hr : ByteRow w F A s) (hA : ∀ k, F k → v.ownBlock ≠ some k) (hsl : s.length ≤ 9223372036854775807) (hb : bs.length + 4 + s.length ≤ 1099511627776 ∨ 65536 < s.length) :
    Calls Tryz.prog 35 #[.pointer (some ⟨g, 0, none⟩), .slice A s.length cap] w (RWrote w g base v (wput bs bad (if s.length ≤ 65536 then some (textB s) else none)).1 (wput bs bad (if s.length ≤ 65536 then some (textB s) else none)).2) := by
  by_cases hs : s.length ≤ 65536
  · rw [if_pos hs]
    have hs' : ¬ (65536 : Int) < (s.length : Int) := by omega
    have HB : Hid (bs.length + 4 + s.length ≤ 1099511627776) := hb.resolve_right (by omega)
    clear hb hs
    cases bad with
    | some a =>
      have c1 : w.cell? ⟨g, 1, none⟩ = some (.int .i64 2) := h.blk.cell 1
      simp only [wput]
      go_enter Tryz.func35, Tryz.ntmps35
      go_wp2
      refine bodyPost_ret (v := .tuple #[]) (by simp [results, Tryz.results35, go_sem]) rfl ?_
      exact ⟨_, rfl, h, Fr.refl _ _, fun k hk => .inl hk⟩
    | none =>
      obtain ⟨A0, cap0, rfl, _, _⟩ := h.own.form
      have c0 : w.cell? ⟨g, 0, none⟩ = some (.slice A0 bs.length cap0) := h.blk.cell 0
      have c1 : w.cell? ⟨g, 1, none⟩ = some (.int .i64 0) := h.blk.cell 1
      simp only [wput]
      obtain ⟨ys, hys⟩ : ∃ ys, bs ++ count4 s.length = ys := ⟨_, rfl⟩
      obtain ⟨zs, hzs⟩ : ∃ zs, ys ++ s = zs := ⟨_, rfl⟩
      rw [textB, ← List.append_assoc, hys, hzs]
      have HYL : Hid (ys.length = bs.length + 4) := by show _ = _; rw [← hys, List.length_append, count4_length]
      go_enter Tryz.func35, Tryz.ntmps35
      go_wp2_with fail
      go_region_law (first | (refine step_append_text rfl (.tmp 22) (.tmp 23) rfl base (.slice A2 ys.length p2) ys (by rfl) h2 F A s.length cap s (by rfl) rfl hr2 (by have := HYL.out; have := HB.out; omega) hbs2 ?_; intro v3 w3 h3 hf3 hk3; rw [hzs] at h3; obtain ⟨A3, p3, rfl, _, _⟩ := h3.form; have hb3 := hb2.fr hf3 (h2.ne_blk hb2 (by decide)); have d0 := hb3.cell 0; have z0 := hb3.frozen 0) | (refine step_append_text rfl (.tmp 18) (.tmp 21) rfl base (.slice A0 bs.length cap0) bs (by rfl) ho1 (fun k => (Value.slice A1 (count4 s.length).length p1).ownBlock = some k) A1 (count4 s.length).length p1 (count4 s.length) (by rfl) rfl hr1 (by rw [count4_length]; have := HB.out; omega) hbs1 ?_; intro v2 w2 h2 hf2 hk2; rw [hys] at h2; obtain ⟨A2, p2, rfl, _, _⟩ := h2.form; have hb2 := hb1.fr hf2 (ho1.ne_blk hb1 (by decide)); have hbs2 : base ≤ w2.heap.size := Nat.le_trans hbs1 hf2.size; have hr2 := hrs1.fr hf2 hA) | (go_simp; go_at_call 53; refine (ref02_four _ _).mono ?_; rintro e w1 ⟨v1, rfl, h1, hf1⟩; obtain ⟨A1, p1, rfl, _, hr1⟩ := h1.form; have ho1 := h.own.drew.fr hf1 (fun _ _ => id); have hbs1 : base ≤ w1.heap.size := Nat.le_trans hbase hf1.size; have hb1 := h.blk.drew.fr hf1 id; have hrs1 := (hr.fr ((Fr.refl (fun _ => False) w).drew) (fun _ _ => id)).fr hf1 (fun _ _ => id); have c01 : w1.cell? ⟨g, 0, none⟩ = some (.slice A0 bs.length cap0) := hb1.cell 0))
      all_goals refine bodyPost_ret (v := .tuple #[]) (by simp [results, Tryz.results35, go_sem]) rfl ?_
      all_goals exact refw_done h hf1 h3 (grow_two hf2 hk2 hf3) (grow_own hf1.size hf2.size hk2 hk3)
  · rw [if_neg hs, wput_none]
    have hs' : (65536 : Int) < (s.length : Int) := by omega
    have HB := refw_bad h
    clear hb hs
    go_enter Tryz.func35, Tryz.ntmps35
    go_wp2_with (go_at_call 52; refine HB.mono ?_; rintro e w1 ⟨v1, rfl, h1, hf1, hk1⟩; have c1 : w1.cell? ⟨g, 1, none⟩ = some (.int .i64 2) := h1.blk.cell 1)
    refine bodyPost_ret (v := .tuple #[]) (by simp [results, Tryz.results35, go_sem]) rfl ?_
    exact ⟨v1, rfl, h1, hf1, hk1⟩
end Go.Proofs.YtcfanacfjcgnbaaGreatDoor
