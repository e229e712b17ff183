/- Parts of the proof, joined. -/
import Derived.Deep.CutRange
import Derived.Test.YtmkdhhhoodeemaaGreatRoLProofGa
set_option linter.unusedVariables false
set_option linter.unusedSimpArgs false
set_option maxRecDepth 100000
set_option maxHeartbeats 16000000
namespace Go.Proofs.YtmkdhhhoodeemaaGreat
open Go Go.RowKit
def wbytes (bs : List Int) : Option Nat → List Int
 | none => bs
 | some _ => []
def Got (w : World) (bs : List Int) (bad : Option Nat) (e : Ending) (w' : World) : Prop :=
 ∃ v, e = .returned (.tuple #[v, errW bad]) ∧ Own8 w' w.heap.size v (wbytes bs bad) ∧ Fr (fun _ => False) w w'
theorem writer_Bytes {w : World} {g base : Nat} {v : Value} {bs : List Int} {bad : Option Nat} (h : WriterAt w g base v bs bad) (hl : bs.length ≤ 1099511627776) :
  Calls Tryz.prog 100 #[.pointer (some ⟨g, 0, none⟩)] w (Got w bs bad) := by
 obtain ⟨A, cap, rfl, _, hr⟩ := h.own.form
 have c0 : w.cell? ⟨g, 0, none⟩ = some (.slice A bs.length cap) := h.blk.cell 0
 cases bad with
 | none =>
  have c1 : w.cell? ⟨g, 1, none⟩ = some .nilIface := h.blk.cell 1
  go_enter Tryz.func100, Tryz.ntmps100
  go_wp2_with (go_at_call 132; refine (bytes_Clone hr rfl hl).mono ?_; rintro e w1 ⟨v1, rfl, h1, hf1⟩)
  refine bodyPost_ret (v := .tuple #[v1, .nilIface]) (by simp [results, Tryz.results100, go_sem]) rfl ?_
  exact ⟨v1, rfl, h1, hf1⟩
 | some a =>
  obtain ⟨t, u, hu⟩ := errV_iface [((⟨#[119, 114, 105, 116, 101]⟩ : ByteArray), (a : Int))] 2
  have hW : Hid (errW (some a) = .iface t u) := hu
  have c1 : w.cell? ⟨g, 1, none⟩ = some (.iface t u) := by rw [← hu]; exact h.blk.cell 1
  go_enter Tryz.func100, Tryz.ntmps100
  go_wp2_with fail
  go_quiet (fail)
  go_wp2
  refine bodyPost_ret (v := .tuple #[.slice none 0 0, .iface t u]) (by simp [results, Tryz.results100, go_sem]) rfl ?_
  exact ⟨_, by rw [hW.out], Own8.nil _ _, (Fr.refl _ _).drewN _⟩
def atPos (A : Option Addr) (pos : Nat) : Option Addr := A.map fun a => a.add pos
structure ReaderAt (w : World) (g : Nat) (A : Option Addr) (bs : List Int) (pos : Nat) (err : Option (List (ByteArray × Int) × Int)) : Prop where
 blk : ∃ A' cap, bs.length - pos ≤ cap ∧ (pos < bs.length → A' = atPos A pos) ∧ Blk w g 223 #[.slice A' (bs.length - pos) cap, .int .i64 pos, errO err]
 row : ByteRow w (fun k => ∃ o, A = some ⟨k, o, none⟩) A bs
 le : pos ≤ bs.length
 ne : ∀ k o, A = some ⟨k, o, none⟩ → k ≠ g
 alt : ∀ k o, A = some ⟨k, o, none⟩ → k < w.heap.size
theorem ReaderAt.fr {S : Nat → Prop} {w w' : World} {g : Nat} {A : Option Addr} {bs : List Int} {pos : Nat} {err : Option (List (ByteArray × Int) × Int)} (h : ReaderAt w g A bs pos err) (hf : Fr S w w') (hg : ¬ S g) (hv : ∀ k o, A = some ⟨k, o, none⟩ → ¬ S k) : ReaderAt w' g A bs pos err := by
 obtain ⟨A', cap, hc, hA, hb⟩ := h.blk
 exact ⟨⟨A', cap, hc, hA, hb.fr hf hg⟩, h.row.fr hf (fun k ⟨o, e⟩ => hv k o e), h.le, h.ne, fun k o e => Nat.lt_of_lt_of_le (h.alt k o e) hf.size⟩
def NewAt (w : World) (bs : List Int) (e : Ending) (w' : World) : Prop :=
 ∃ g A, e = .returned (.pointer (some ⟨g, 0, none⟩)) ∧ ReaderAt w' g A bs 0 none ∧ w.heap.size ≤ g ∧ (∀ k o, A = some ⟨k, o, none⟩ → w.heap.size ≤ k) ∧ Fr (fun _ => False) w w'
theorem wire_New {w : World} {F : Nat → Prop} {A : Option Addr} {bs : List Int} {cap : Nat} (hr : ByteRow w F A bs) (hl : bs.length ≤ 1099511627776) :
  Calls Tryz.prog 102 #[.slice A bs.length cap] w (NewAt w bs) := by
 go_enter Tryz.func102, Tryz.ntmps102
 go_wp2_with (go_at_call 132; refine (bytes_Clone hr rfl hl).mono ?_; rintro e w1 ⟨v1, rfl, h1, hf1⟩; obtain ⟨A1, cap1, rfl, hc1, hr1⟩ := h1.form)
 go_ret
 refine ⟨w1.heap.size, A1, rfl, ⟨⟨A1, cap1, hc1, fun _ => ?_, ?_⟩, ?_, Nat.zero_le _, ?_, ?_⟩, hf1.size, ?_, hf1.alloc _⟩
 ·cases A1 <;> rfl
 ·exact Blk.new w1 223 #[.slice A1 bs.length cap1, .int .i64 0, .nilIface]
 ·intro k x hx
  obtain ⟨b, o, e, _, hc⟩ := hr1 k x hx
  exact ⟨b, o, e, ⟨o, e⟩, ((Fr.refl (fun _ => False) w1).alloc _).cell_some hc id⟩
 ·rintro k o rfl
  have := h1.lt k rfl
  omega
 ·rintro k o rfl
  have := h1.lt k rfl
  simp
  omega
 ·rintro k o rfl
  rcases h1.2 with ⟨e, _⟩ | ⟨g, cap, cur, e, hg, _⟩
  ·cases e
  ·cases e
   exact hg
theorem ReaderAt.rest {w : World} {g : Nat} {A : Option Addr} {bs : List Int} {pos : Nat} {err : Option (List (ByteArray × Int) × Int)} (h : ReaderAt w g A bs pos err) (hp : pos < bs.length) : ∃ b o, A = some ⟨b, o, none⟩ ∧ atPos A pos = some ⟨b, o + pos, none⟩ := by
 obtain ⟨b, o, e, _⟩ := h.row pos _ (List.getElem?_eq_getElem hp)
 exact ⟨b, o, e, by rw [e, atPos, Option.map_some, add_at]⟩
theorem ReaderAt.part {w : World} {g : Nat} {A A' : Option Addr} {bs : List Int} {pos n : Nat} {err : Option (List (ByteArray × Int) × Int)} (h : ReaderAt w g A bs pos err) (hA : pos < bs.length → A' = atPos A pos) : ByteRow w (fun k => ∃ o, A = some ⟨k, o, none⟩) A' ((bs.drop pos).take n) := by
 intro k x hx
 rw [List.getElem?_take] at hx
 split at hx
 ·rw [List.getElem?_drop] at hx
  have hp : pos < bs.length := by
   have := (List.getElem?_eq_some_iff.1 hx).1
   omega
  obtain ⟨b, o, e, hF, hc⟩ := h.row _ x hx
  exact ⟨b, o + pos, by rw [hA hp, e, atPos, Option.map_some, add_at], hF, by rw [Nat.add_assoc]; exact hc⟩
 ·cases hx
def Cut (w : World) (g : Nat) (A : Option Addr) (bs : List Int) (pos n : Nat) (err : Option (List (ByteArray × Int) × Int)) (e : Ending) (w' : World) : Prop :=
 (bs.length - pos < n ∧ e = .returned (.tuple #[.slice none 0 0, .int .i64 21]) ∧ w = w') ∨
 (n ≤ bs.length - pos ∧ ∃ A', e = .returned (.tuple #[.slice A' n n, .int .i64 0]) ∧ ByteRow w' (fun k => ∃ o, A = some ⟨k, o, none⟩) A' ((bs.drop pos).take n) ∧ ReaderAt w' g A bs (pos + n) err ∧ Fr (fun k => k = g) w w')
theorem cut_yes {w : World} {g : Nat} {A A1 A2 : Option Addr} {bs : List Int} {pos n cap : Nat} {err : Option (List (ByteArray × Int) × Int)} (h : ReaderAt w g A bs pos err) (hn : n ≤ bs.length - pos) (h1 : pos < bs.length → A1 = atPos A pos) (h2 : pos + n < bs.length → A2 = atPos A (pos + n)) (hc : bs.length - pos - n ≤ cap) {l : Nat} (hl : l = bs.length - pos - n)
  {w' : World} (hw : w' = (w.setCell ⟨g, 0, none⟩ (.slice A2 l cap)).setCell ⟨g, 1, none⟩ (.int .i64 ((pos + n : Nat) : Int))) :
  Cut w g A bs pos n err (.returned (.tuple #[.slice A1 n n, .int .i64 0])) w' := by
 subst hw
 subst hl
 obtain ⟨A', cap', _, _, hb⟩ := h.blk
 have hf : Fr (fun k => k = g) w ((w.setCell ⟨g, 0, none⟩ (.slice A2 (bs.length - pos - n) cap)).setCell ⟨g, 1, none⟩ (.int .i64 ((pos + n : Nat) : Int))) := ((Fr.refl (fun k => k = g) w).setCell (p := ⟨g, 0, none⟩) (fun _ => rfl) _).setCell (p := ⟨g, 1, none⟩) (fun _ => rfl) _
 have hne : ∀ k, (∃ o, A = some ⟨k, o, none⟩) → ¬ k = g := fun k ⟨o, e⟩ => h.ne k o e
 refine .inr ⟨hn, A1, rfl, (h.part h1).fr hf hne, ⟨⟨A2, cap, by omega, h2, ?_⟩, h.row.fr hf hne, by have := h.le; omega, h.ne, fun k o e => Nat.lt_of_lt_of_le (h.alt k o e) hf.size⟩, hf⟩
 have := (hb.set_ 0 (.slice A2 (bs.length - pos - n) cap)).set_ 1 (.int .i64 ((pos + n : Nat) : Int))
 rw [show bs.length - (pos + n) = bs.length - pos - n by omega]
 exact this
theorem reader_cut {w : World} {g : Nat} {A : Option Addr} {bs : List Int} {pos : Nat} {err : Option (List (ByteArray × Int) × Int)} (h : ReaderAt w g A bs pos err) (hl : bs.length ≤ 1099511627776) (n : Nat) :
  Calls Tryz.prog 161 #[.pointer (some ⟨g, 0, none⟩), .int .i64 n] w (Cut w g A bs pos n err) := by
 obtain ⟨A', cap, hcap, hA, hb⟩ := h.blk
 have c0 : w.cell? ⟨g, 0, none⟩ = some (.slice A' (bs.length - pos) cap) := hb.cell 0
 have c1 : w.cell? ⟨g, 1, none⟩ = some (.int .i64 pos) := hb.cell 1
 have z0 := hb.frozen 0
 have z1 := hb.frozen 1
 have hle := h.le
 by_cases hn : bs.length - pos < n
 ·have hn' : ((bs.length - pos : Nat) : Int) < (n : Int) := by omega
  go_enter Tryz.func161, Tryz.ntmps161
  go_wp2
  refine bodyPost_ret (v := .tuple #[.slice none 0 0, .int .i64 21]) (by simp [results, Tryz.results161, go_sem]) rfl ?_
  exact .inl ⟨hn, rfl, rfl⟩
 ·have hn' : ¬ ((bs.length - pos : Nat) : Int) < (n : Int) := by omega
  have hn2 : n ≤ bs.length - pos := by omega
  have hn3 : n ≤ cap := by omega
  have HA := Lib.hid hA
  have H := Lib.hid h
  by_cases hp : pos < bs.length
  ·obtain ⟨b, o, rfl, e1⟩ := h.rest hp
   obtain rfl := (hA hp).trans e1
   clear hA h hb
   go_enter Tryz.func161, Tryz.ntmps161
   go_wp2
   ·refine bodyPost_ret (v := .tuple #[.slice (some ⟨b, o + pos, none⟩) n n, .int .i64 0]) (by simp [results, Tryz.results161, go_sem]) rfl ?_
    exact cut_yes H.out hn2 HA.out (A2 := some ⟨b, o + pos, none⟩) (l := bs.length - pos - n) (cap := 0) (fun h => by omega) (by omega) rfl rfl
   ·refine bodyPost_ret (v := .tuple #[.slice (some ⟨b, o + pos, none⟩) n n, .int .i64 0]) (by simp [results, Tryz.results161, go_sem]) rfl ?_
    exact cut_yes H.out hn2 HA.out (A2 := some ⟨b, o + pos + n, none⟩) (l := bs.length - pos - n) (cap := cap - n) (fun h => by rw [atPos, Option.map_some, add_at, Nat.add_assoc]) (by omega) rfl rfl
  ·have h0 : bs.length - pos = 0 := by omega
   obtain rfl : n = 0 := by omega
   rw [h0] at c0
   cases A' with
   | none =>
    clear hA h hb
    go_enter Tryz.func161, Tryz.ntmps161
    go_wp2
    refine bodyPost_ret (v := .tuple #[.slice none 0 0, .int .i64 0]) (by simp [results, Tryz.results161, go_sem]) rfl ?_
    first
     | exact cut_yes H.out hn2 HA.out (A2 := none) (l := 0) (cap := 0) (fun h => by omega) (by omega) (by omega) rfl
     | exact cut_yes H.out hn2 HA.out (A2 := none) (l := 0) (cap := cap) (fun h => by omega) (by omega) (by omega) rfl
   | some a =>
    clear hA h hb
    go_enter Tryz.func161, Tryz.ntmps161
    go_wp2
    all_goals refine bodyPost_ret (v := .tuple #[.slice (some a) 0 0, .int .i64 0]) (by simp [results, Tryz.results161, go_sem]) rfl ?_
    all_goals first
     | exact cut_yes H.out hn2 HA.out (A2 := some a) (l := 0) (cap := 0) (fun h => by omega) (by omega) (by omega) rfl
     | exact cut_yes H.out hn2 HA.out (A2 := some a) (l := 0) (cap := cap) (fun h => by omega) (by omega) (by omega) rfl
theorem ref02_four (w : World) (n : Int) : Calls Tryz.prog 67 #[.int .i64 n] w (Fresh w (count4 n)) := by
 go_enter Tryz.func67, Tryz.ntmps67
 go_wp2
 go_ret
 exact ⟨.slice (some ⟨w.heap.size, 0, none⟩) 4 4, rfl, Own8.built w (Nat.le_refl _) (count4 n) (by rw [count4_length]; decide) 4 rfl, (Fr.refl _ _).alloc _⟩
theorem ref02_eight (w : World) (n : Int) : Calls Tryz.prog 65 #[.int .i64 n] w (Fresh w (num8 n)) := by
 go_enter Tryz.func65, Tryz.ntmps65
 go_wp2_with fail
 go_loopw [3, 4] (fun b i wr => ∃ j : Nat, j ≤ 8 ∧ i = .int .i64 (56 - 8 * (j : Int)) ∧ Own8 wr w.heap.size b ((num8 n).take j) ∧ Fr (fun _ => False) w wr) (fun b i _ => (intOf i + 8).toNat)
 case atStart => exact ⟨0, by omega, rfl, Own8.nil _ _, Fr.refl _ _⟩
 case round =>
  obtain ⟨j, hj, rfl, hown, hf⟩ := hrel
  by_cases hlt : j < 8
  ·have h0 : (0 : Int) ≤ 56 - 8 * (j : Int) := by omega
   go_wp2_with (at_builtin; refine wpList_append_bytes rfl (.tmp 9) (.tmp 14) rfl w.heap.size u3 ((num8 n).take j) rfl (hown.alloc _) wr.heap.size 0 1 1 [n / 2 ^ (56 - 8 * j) % 256] rfl rfl (ByteAt.new wr [n / 2 ^ (56 - 8 * j) % 256]) (by decide) (by simp [num8_length]; omega) (by have := hf.size; simp; omega) ?_; intro g2 c2 w2 hown2 hf2 hg2)
   go_roundw
   case rel =>
    have hfb : Fr (fun k => u3.ownBlock = some k) wr w2 := ((Fr.refl (fun k => u3.ownBlock = some k) wr).alloc _).trans hf2 (fun k _ h => h)
    exact ⟨j + 1, by omega, by go_num, by rw [num8_take hlt]; exact hown2.len (by simp), hf.own hown hfb (Nat.le_refl _)⟩
   case measure => simp [intOf]; omega
  ·obtain rfl : j = 8 := by omega
   go_wp2
   go_ret
   exact ⟨_, rfl, by simpa [num8_length, List.take_of_length_le] using hown, hf⟩
def badC : Option Nat → Int
 | none => 0
 | some _ => 2
def badA : Option Nat → Int
 | none => 0
 | some a => a
structure RefW (w : World) (g base : Nat) (v : Value) (bs : List Int) (bad : Option Nat) : Prop where
 blk : Blk w g 94 #[v, .int .i64 (badC bad), .int .i64 (badA bad)]
 own : Own8 w base v bs
theorem RefW.fr {S : Nat → Prop} {w w' : World} {g base : Nat} {v : Value} {bs : List Int} {bad : Option Nat} (h : RefW w g base v bs bad) (hf : Fr S w w') (hg : ¬ S g) (hv : ∀ k, v.ownBlock = some k → ¬ S k) : RefW w' g base v bs bad :=
 ⟨h.blk.fr hf hg, h.own.fr hf hv⟩
def RWrote (w : World) (g base : Nat) (v : Value) (bs : List Int) (bad : Option Nat) (e : Ending) (w' : World) : Prop :=
 ∃ v', e = .returned (.tuple #[]) ∧ RefW w' g base v' bs bad ∧ Fr (fun k => k = g ∨ v.ownBlock = some k) w w' ∧ ∀ k, v'.ownBlock = some k → v.ownBlock = some k ∨ w.heap.size ≤ k
theorem refw_bad {w : World} {g base : Nat} {v : Value} {bs : List Int} {bad : Option Nat} (h : RefW w g base v bs bad) :
  Calls Tryz.prog 66 #[.pointer (some ⟨g, 0, none⟩)] w (RWrote w g base v bs (some (bad.getD bs.length))) := by
 obtain ⟨A, cap, rfl, _, _⟩ := h.own.form
 have c0 : w.cell? ⟨g, 0, none⟩ = some (.slice A bs.length cap) := h.blk.cell 0
 have z1 := h.blk.frozen 1
 have z2 := h.blk.frozen 2
 cases bad with
 | some a =>
  have c1 : w.cell? ⟨g, 1, none⟩ = some (.int .i64 2) := h.blk.cell 1
  go_enter Tryz.func66, Tryz.ntmps66
  go_wp2
  refine bodyPost_ret (v := .tuple #[]) (by simp [results, Tryz.results66, go_sem]) rfl ?_
  exact ⟨_, rfl, h, Fr.refl _ _, fun k hk => .inl hk⟩
 | none =>
  have c1 : w.cell? ⟨g, 1, none⟩ = some (.int .i64 0) := h.blk.cell 1
  have c2 : w.cell? ⟨g, 2, none⟩ = some (.int .i64 0) := h.blk.cell 2
  go_enter Tryz.func66, Tryz.ntmps66
  go_wp2
  refine bodyPost_ret (v := .tuple #[]) (by simp [results, Tryz.results66, go_sem]) rfl ?_
  exact ⟨_, rfl, ⟨(h.blk.set_ 1 (.int .i64 2)).set_ 2 (.int .i64 bs.length), (h.own.setCell h.blk (by decide) _).setCell (h.blk.set_ 1 (.int .i64 2)) (by decide) _⟩,
   ((Fr.refl (fun k => k = g ∨ (Value.slice A bs.length cap).ownBlock = some k) w).setCell (p := ⟨g, 1, none⟩) (fun _ => .inl rfl) _).setCell (p := ⟨g, 2, none⟩) (fun _ => .inl rfl) _, fun k hk => .inl hk⟩
theorem refw_done {w w1 w2 : World} {g base : Nat} {v v2 : Value} {bs ys : List Int} (h : RefW w g base v bs none) (hf1 : Fr (fun _ => False) w.drew w1) (h2 : Own8 w2 base v2 ys) (hf2 : Fr (fun k => v.ownBlock = some k) w1 w2) (hk2 : v2.ownBlock = v.ownBlock ∨ ∃ k, v2.ownBlock = some k ∧ w.heap.size ≤ k) :
  RWrote w g base v ys none (.returned (.tuple #[])) (w2.setCell ⟨g, 0, none⟩ v2) := by
 have hb1 := h.blk.drew.fr hf1 id
 have hb2 := hb1.fr hf2 ((h.own.drew.fr hf1 (fun _ _ => id)).ne_blk hb1 (by decide))
 have hf : Fr (fun k => k = g ∨ v.ownBlock = some k) w (w2.setCell ⟨g, 0, none⟩ v2) :=
  Fr.setCell (p := ⟨g, 0, none⟩) ((((Fr.refl (fun k => k = g ∨ v.ownBlock = some k) w).drew).trans hf1 (fun _ _ h => h.elim)).trans hf2 (fun _ _ h => .inr h)) (fun _ => .inl rfl) _
 refine ⟨v2, rfl, ⟨hb2.set_ 0 v2, h2.setCell hb2 (by decide) _⟩, hf, fun k hk => ?_⟩
 rcases hk2 with h3 | ⟨j, h3, h4⟩
 ·exact .inl (h3 ▸ hk)
 ·rw [hk] at h3
  cases h3
  exact .inr h4
theorem refw_Num {w : World} {g base : Nat} {v : Value} {bs : List Int} {bad : Option Nat} (h : RefW w g base v bs bad) (hbase : base ≤ w.heap.size) (hb : bs.length + 8 ≤ 1099511627776) (n : Int) :
  Calls Tryz.prog 34 #[.pointer (some ⟨g, 0, none⟩), .int .i64 n] w (RWrote w g base v (wput bs bad (some (num8 n))).1 (wput bs bad (some (num8 n))).2) := by
 cases bad with
 | some a =>
  have c1 : w.cell? ⟨g, 1, none⟩ = some (.int .i64 2) := h.blk.cell 1
  simp only [wput]
  go_enter Tryz.func34, Tryz.ntmps34
  go_wp2
  refine bodyPost_ret (v := .tuple #[]) (by simp [results, Tryz.results34, go_sem]) rfl ?_
  exact ⟨_, rfl, h, Fr.refl _ _, fun k hk => .inl hk⟩
 | none =>
  obtain ⟨A, cap, rfl, _, _⟩ := h.own.form
  have c0 : w.cell? ⟨g, 0, none⟩ = some (.slice A bs.length cap) := h.blk.cell 0
  have c1 : w.cell? ⟨g, 1, none⟩ = some (.int .i64 0) := h.blk.cell 1
  simp only [wput]
  obtain ⟨ys, hys⟩ : ∃ ys, bs ++ num8 n = ys := ⟨_, rfl⟩
  rw [hys]
  go_enter Tryz.func34, Tryz.ntmps34
  go_wp2_with fail
  go_region_law (first | (refine step_append_text rfl (.tmp 13) (.tmp 15) rfl base (.slice A bs.length cap) bs (by rfl) ho1 (fun k => (Value.slice A1 (num8 n).length p1).ownBlock = some k) A1 (num8 n).length p1 (num8 n) (by rfl) rfl hr1 hb hbs1 ?_; intro v2 w2 h2 hf2 hk2; rw [hys] at h2; obtain ⟨A2, p2, rfl, _, _⟩ := h2.form; have hb2 := hb1.fr hf2 (ho1.ne_blk hb1 (by decide)); have d0 := hb2.cell 0; have z0 := hb2.frozen 0) | (go_simp; go_at_call 65; refine (ref02_eight _ n).mono ?_; rintro e w1 ⟨v1, rfl, h1, hf1⟩; obtain ⟨A1, p1, rfl, _, hr1⟩ := h1.form; have ho1 := h.own.drew.fr hf1 (fun _ _ => id); have hbs1 : base ≤ w1.heap.size := Nat.le_trans hbase hf1.size; have hb1 := h.blk.drew.fr hf1 id; have c01 : w1.cell? ⟨g, 0, none⟩ = some (.slice A bs.length cap) := hb1.cell 0))
  all_goals refine bodyPost_ret (v := .tuple #[]) (by simp [results, Tryz.results34, go_sem]) rfl ?_
  all_goals exact refw_done h hf1 h2 hf2 (hk2.imp_right fun e => ⟨_, e, hf1.size⟩)
theorem grow_two {w1 w2 w3 : World} {v v2 : Value} (hf2 : Fr (fun k => v.ownBlock = some k) w1 w2) (hk2 : v2.ownBlock = v.ownBlock ∨ v2.ownBlock = some w1.heap.size) (hf3 : Fr (fun k => v2.ownBlock = some k) w2 w3) : Fr (fun k => v.ownBlock = some k) w1 w3 :=
 hf2.trans hf3 (fun k hk h => by
  rcases hk2 with e | e
  ·exact e ▸ h
  ·rw [h] at e
   cases e
   exact absurd hk (Nat.lt_irrefl _))
theorem grow_own {w w1 w2 : World} {v v2 v3 : Value} (h1 : w.heap.size ≤ w1.heap.size) (h2 : w1.heap.size ≤ w2.heap.size) (hk2 : v2.ownBlock = v.ownBlock ∨ v2.ownBlock = some w1.heap.size) (hk3 : v3.ownBlock = v2.ownBlock ∨ v3.ownBlock = some w2.heap.size) : v3.ownBlock = v.ownBlock ∨ ∃ k, v3.ownBlock = some k ∧ w.heap.size ≤ k := by
 rcases hk3 with e | e
 ·rcases hk2 with e2 | e2
  ·exact .inl (e.trans e2)
  ·exact .inr ⟨_, e.trans e2, h1⟩
 ·exact .inr ⟨_, e, Nat.le_trans h1 h2⟩
theorem wput_none (bs : List Int) (bad : Option Nat) : wput bs bad none = (bs, some (bad.getD bs.length)) := by cases bad <;> rfl
theorem refw_Text {w : World} {g base : Nat} {v : Value} {bs : List Int} {bad : Option Nat} (h : RefW w g base v bs bad) (hbase : base ≤ w.heap.size) {s : List Int} {F : Nat → Prop} {A : Option Addr} {cap : Nat} (hr : ByteRow w F A s) (hA : ∀ k, F k → v.ownBlock ≠ some k) (hsl : s.length ≤ 9223372036854775807) (hb : bs.length + 4 + s.length ≤ 1099511627776 ∨ 65536 < s.length) :
  Calls Tryz.prog 35 #[.pointer (some ⟨g, 0, none⟩), .slice A s.length cap] w (RWrote w g base v (wput bs bad (if s.length ≤ 65536 then some (textB s) else none)).1 (wput bs bad (if s.length ≤ 65536 then some (textB s) else none)).2) := by
 by_cases hs : s.length ≤ 65536
 ·rw [if_pos hs]
  have hs' : ¬ (65536 : Int) < (s.length : Int) := by omega
  have HB : Hid (bs.length + 4 + s.length ≤ 1099511627776) := hb.resolve_right (by omega)
  clear hb hs
  cases bad with
  | some a =>
   have c1 : w.cell? ⟨g, 1, none⟩ = some (.int .i64 2) := h.blk.cell 1
   simp only [wput]
   go_enter Tryz.func35, Tryz.ntmps35
   go_wp2
   refine bodyPost_ret (v := .tuple #[]) (by simp [results, Tryz.results35, go_sem]) rfl ?_
   exact ⟨_, rfl, h, Fr.refl _ _, fun k hk => .inl hk⟩
  | none =>
   obtain ⟨A0, cap0, rfl, _, _⟩ := h.own.form
   have c0 : w.cell? ⟨g, 0, none⟩ = some (.slice A0 bs.length cap0) := h.blk.cell 0
   have c1 : w.cell? ⟨g, 1, none⟩ = some (.int .i64 0) := h.blk.cell 1
   simp only [wput]
   obtain ⟨ys, hys⟩ : ∃ ys, bs ++ count4 s.length = ys := ⟨_, rfl⟩
   obtain ⟨zs, hzs⟩ : ∃ zs, ys ++ s = zs := ⟨_, rfl⟩
   rw [textB, ← List.append_assoc, hys, hzs]
   have HYL : Hid (ys.length = bs.length + 4) := by show _ = _; rw [← hys, List.length_append, count4_length]
   go_enter Tryz.func35, Tryz.ntmps35
   go_wp2_with fail
   go_region_law (first | (refine step_append_text rfl (.tmp 22) (.tmp 23) rfl base (.slice A2 ys.length p2) ys (by rfl) h2 F A s.length cap s (by rfl) rfl hr2 (by have := HYL.out; have := HB.out; omega) hbs2 ?_; intro v3 w3 h3 hf3 hk3; rw [hzs] at h3; obtain ⟨A3, p3, rfl, _, _⟩ := h3.form; have hb3 := hb2.fr hf3 (h2.ne_blk hb2 (by decide)); have d0 := hb3.cell 0; have z0 := hb3.frozen 0) | (refine step_append_text rfl (.tmp 18) (.tmp 21) rfl base (.slice A0 bs.length cap0) bs (by rfl) ho1 (fun k => (Value.slice A1 (count4 s.length).length p1).ownBlock = some k) A1 (count4 s.length).length p1 (count4 s.length) (by rfl) rfl hr1 (by rw [count4_length]; have := HB.out; omega) hbs1 ?_; intro v2 w2 h2 hf2 hk2; rw [hys] at h2; obtain ⟨A2, p2, rfl, _, _⟩ := h2.form; have hb2 := hb1.fr hf2 (ho1.ne_blk hb1 (by decide)); have hbs2 : base ≤ w2.heap.size := Nat.le_trans hbs1 hf2.size; have hr2 := hrs1.fr hf2 hA) | (go_simp; go_at_call 67; refine (ref02_four _ _).mono ?_; rintro e w1 ⟨v1, rfl, h1, hf1⟩; obtain ⟨A1, p1, rfl, _, hr1⟩ := h1.form; have ho1 := h.own.drew.fr hf1 (fun _ _ => id); have hbs1 : base ≤ w1.heap.size := Nat.le_trans hbase hf1.size; have hb1 := h.blk.drew.fr hf1 id; have hrs1 := (hr.fr ((Fr.refl (fun _ => False) w).drew) (fun _ _ => id)).fr hf1 (fun _ _ => id); have c01 : w1.cell? ⟨g, 0, none⟩ = some (.slice A0 bs.length cap0) := hb1.cell 0))
   all_goals refine bodyPost_ret (v := .tuple #[]) (by simp [results, Tryz.results35, go_sem]) rfl ?_
   all_goals exact refw_done h hf1 h3 (grow_two hf2 hk2 hf3) (grow_own hf1.size hf2.size hk2 hk3)
 ·rw [if_neg hs, wput_none]
  have hs' : (65536 : Int) < (s.length : Int) := by omega
  have HB := refw_bad h
  clear hb hs
  go_enter Tryz.func35, Tryz.ntmps35
  go_wp2_with (go_at_call 66; refine HB.mono ?_; rintro e w1 ⟨v1, rfl, h1, hf1, hk1⟩; have c1 : w1.cell? ⟨g, 1, none⟩ = some (.int .i64 2) := h1.blk.cell 1)
  refine bodyPost_ret (v := .tuple #[]) (by simp [results, Tryz.results35, go_sem]) rfl ?_
  exact ⟨v1, rfl, h1, hf1, hk1⟩
theorem refw_Nums {w : World} {g base : Nat} {v : Value} {bs : List Int} {bad : Option Nat} (h : RefW w g base v bs bad) (hbase : base ≤ w.heap.size) {l : List Int} {F : Nat → Prop} {A : Option Addr} {cap : Nat} (hr : NumRow w F A l) (hA : ∀ k, F k → v.ownBlock ≠ some k) (hFg : ¬ F g) (hll : l.length ≤ 9223372036854775807) (hb : bs.length + (numsB l).length ≤ 1099511627776 ∨ 1024 < l.length) :
  Calls Tryz.prog 119 #[.pointer (some ⟨g, 0, none⟩), .slice A l.length cap] w (RWrote w g base v (wput bs bad (if l.length ≤ 1024 then some (numsB l) else none)).1 (wput bs bad (if l.length ≤ 1024 then some (numsB l) else none)).2) := by
 by_cases hs : l.length ≤ 1024
 ·rw [if_pos hs]
  have hs' : ¬ (1024 : Int) < (l.length : Int) := by omega
  have HB : Hid (bs.length + (4 + (l.flatMap num8).length) ≤ 1099511627776) := by simpa [numsB, count4_length, Hid] using hb.resolve_right (by omega)
  clear hb hs
  cases bad with
  | some a =>
   have c1 : w.cell? ⟨g, 1, none⟩ = some (.int .i64 2) := h.blk.cell 1
   simp only [wput]
   go_enter Tryz.func119, Tryz.ntmps119
   go_wp2
   refine bodyPost_ret (v := .tuple #[]) (by simp [results, Tryz.results119, go_sem]) rfl ?_
   exact ⟨_, rfl, h, Fr.refl _ _, fun k hk => .inl hk⟩
  | none =>
   obtain ⟨A0, cap0, rfl, _, _⟩ := h.own.form
   have c0 : w.cell? ⟨g, 0, none⟩ = some (.slice A0 bs.length cap0) := h.blk.cell 0
   have c1 : w.cell? ⟨g, 1, none⟩ = some (.int .i64 0) := h.blk.cell 1
   simp only [wput]
   obtain ⟨ys, hys⟩ : ∃ ys, bs ++ count4 l.length = ys := ⟨_, rfl⟩
   rw [numsB, ← List.append_assoc, hys]
   have HYL : Hid (ys.length = bs.length + 4) := by show _ = _; rw [← hys, List.length_append, count4_length]
   go_enter Tryz.func119, Tryz.ntmps119
   go_upto_region 3 with fail
   go_cut [] from 15 to 25 (fun wx => RWrote w g base (.slice A0 bs.length cap0) ys none (.returned (.tuple #[])) wx)
   case first =>
    go_region_law (first | (refine step_append_text rfl (.tmp 19) (.tmp 22) rfl base (.slice A0 bs.length cap0) bs (by rfl) ho1 (fun k => (Value.slice A1 (count4 l.length).length p1).ownBlock = some k) A1 (count4 l.length).length p1 (count4 l.length) (by rfl) rfl hr1 (by rw [count4_length]; have := HB.out; omega) hbs1 ?_; intro v2 w2 h2 hf2 hk2; rw [hys] at h2; obtain ⟨A2, p2, rfl, _, _⟩ := h2.form; have hb2 := hb1.fr hf2 (ho1.ne_blk hb1 (by decide)); have d0 := hb2.cell 0; have z0 := hb2.frozen 0) | (go_simp; go_at_call 67; refine (ref02_four _ _).mono ?_; rintro e w1 ⟨v1, rfl, h1, hf1⟩; obtain ⟨A1, p1, rfl, _, hr1⟩ := h1.form; have ho1 := h.own.drew.fr hf1 (fun _ _ => id); have hbs1 : base ≤ w1.heap.size := Nat.le_trans hbase hf1.size; have hb1 := h.blk.drew.fr hf1 id; have c01 : w1.cell? ⟨g, 0, none⟩ = some (.slice A0 bs.length cap0) := hb1.cell 0))
    all_goals go_wp2_with fail
    all_goals go_meet
    all_goals exact refw_done h hf1 h2 hf2 (hk2.imp_right fun e => ⟨_, e, hf1.size⟩)
   case rest =>
    obtain ⟨v2, _, h2, hf2, hk2⟩ := hcut
    clear c0 c1
    go_wp2_with fail
    go_loopw [4] (fun i wr => ∃ (k : Nat) (v3 : Value), k ≤ l.length ∧ i = .int .i64 k ∧ RefW wr g base v3 (ys ++ (l.take k).flatMap num8) none ∧ Fr (fun j => j = g ∨ (Value.slice A0 bs.length cap0).ownBlock = some j) w wr ∧ ∀ j, v3.ownBlock = some j → (Value.slice A0 bs.length cap0).ownBlock = some j ∨ w.heap.size ≤ j) (fun i _ => l.length - (intOf i).toNat)
    case atStart => exact ⟨0, v2, by omega, rfl, by simpa using h2, hf2, hk2⟩
    case round =>
     obtain ⟨k, v3, hk, rfl, h3, hf, hko⟩ := hrel
     by_cases hlt : k < l.length
     ·obtain ⟨x, hx⟩ : ∃ x, l[k]? = some x := ⟨l[k], List.getElem?_eq_getElem hlt⟩
      obtain ⟨b, o, rfl, hFb, hc⟩ := hr k x hx
      have d0 := hf.cell_some hc (fun h => h.elim (fun e => hFg (e ▸ hFb)) (hA b hFb))
      have HX := Lib.hid hx
      have hsz := hf.size
      have hb2 : (ys ++ (l.take k).flatMap num8).length + 8 ≤ 1099511627776 := by
       have h1 := HB.out
       have h2 := flat_le1 num8 hx
       rw [num8_length] at h2
       have := HYL.out
       simp only [List.length_append]
       omega
      clear hr hc hx hys h2
      go_wp2_with (go_at_call 34; refine (refw_Num h3 (by omega) hb2 x).mono ?_; rintro e w4 ⟨v4, rfl, h4, hf4, hk4⟩)
      go_roundw
      case rel =>
       refine ⟨k + 1, v4, by omega, by go_num, by rw [flat_take num8 HX.out, ← List.append_assoc]; exact h4, hf.trans hf4 (fun j hj h => h.elim .inl (fun h => (hko j h).elim .inr (fun h => absurd hj (Nat.not_lt.2 h)))), ?_⟩
       intro j hj
       rcases hk4 j hj with h | h
       ·exact hko j h
       ·exact .inr (by omega)
      case measure => simp [intOf]; omega
     ·obtain rfl : k = l.length := by omega
      rw [List.take_length] at h3
      go_wp2
      refine bodyPost_ret (v := .tuple #[]) (by simp [results, Tryz.results119, go_sem]) rfl ?_
      exact ⟨_, rfl, h3, hf, hko⟩
 ·rw [if_neg hs, wput_none]
  have hs' : (1024 : Int) < (l.length : Int) := by omega
  have HB := refw_bad h
  clear hb hs
  go_enter Tryz.func119, Tryz.ntmps119
  go_wp2_with (go_at_call 66; refine HB.mono ?_; rintro e w1 ⟨v1, rfl, h1, hf1, hk1⟩; have c1 : w1.cell? ⟨g, 1, none⟩ = some (.int .i64 2) := h1.blk.cell 1)
  refine bodyPost_ret (v := .tuple #[]) (by simp [results, Tryz.results119, go_sem]) rfl ?_
  exact ⟨v1, rfl, h1, hf1, hk1⟩
theorem refw_Bytes {w : World} {g base : Nat} {v : Value} {bs : List Int} {bad : Option Nat} (h : RefW w g base v bs bad) (hl : bs.length ≤ 1099511627776) :
  Calls Tryz.prog 36 #[.pointer (some ⟨g, 0, none⟩)] w (Fresh w (wbytes bs bad)) := by
 cases bad with
 | some a =>
  have c1 : w.cell? ⟨g, 1, none⟩ = some (.int .i64 2) := h.blk.cell 1
  go_enter Tryz.func36, Tryz.ntmps36
  go_wp2
  go_ret
  exact ⟨_, rfl, Own8.nil _ _, Fr.refl _ _⟩
 | none =>
  obtain ⟨A, cap, rfl, _, hr⟩ := h.own.form
  have c0 : (w.alloc (Obj.cells #[] 5)).cell? ⟨g, 0, none⟩ = some (.slice A bs.length cap) := (h.blk.alloc _).cell 0
  have c1 : w.cell? ⟨g, 1, none⟩ = some (.int .i64 0) := h.blk.cell 1
  have hr1 := hr.fr ((Fr.refl (fun _ => False) w).alloc (Obj.cells #[] 5)) (fun _ _ => id)
  go_enter Tryz.func36, Tryz.ntmps36
  go_wp2_with (at_builtin; refine wpList_append_text rfl (.tmp 8) (.tmp 12) rfl w.heap.size _ [] rfl (Own8.built w (Nat.le_refl _) [] (by simp) 0 rfl) _ A bs.length cap bs rfl rfl hr1 (by simpa using hl) (by simp) ?_; intro v2 w2 h2 hf2 hk2)
  go_ret
  exact ⟨v2, rfl, by simpa [wbytes] using h2, ((Fr.refl (fun _ => False) w).alloc _).trans hf2 (fun k hk h => by cases h; exact absurd hk (Nat.lt_irrefl _))⟩
def yesI (b : Bool) : Int := if b then 1 else 0
def sayB (s : SayD) : List Int := num8 s.kind ++ num8 s.txn ++ num8 (yesI s.yes) ++ textB (bytesOf s.from_) ++ textB (bytesOf s.to_) ++ num8 s.epoch ++ num8 s.shard ++ num8 s.target ++ num8 s.root
theorem wrote_fr {w wi wj : World} {g base : Nat} {v : Value} {bs : List Int} (hf : Fr (fun _ => False) w wi) (ho : Own8 wi base v bs) (hg : w.heap.size ≤ g) (hb : w.heap.size ≤ base) (h : Fr (fun k => k = g ∨ v.ownBlock = some k) wi wj) : Fr (fun _ => False) w wj :=
 hf.trans h (fun k hk e => by
  rcases e with e | e
  ·omega
  ·have := own_ge ho k e; omega)
theorem wrote_blk {wi wj : World} {g gB base : Nat} {tg t : TypeId} {cs cg : Array Value} {v : Value} {bs : List Int} (hB : Blk wi gB t cs) (hg : Blk wi g tg cg) (ho : Own8 wi base v bs) (h : Fr (fun k => k = g ∨ v.ownBlock = some k) wi wj) (h1 : tg ≠ t) (h2 : 5 ≠ t) : Blk wj gB t cs :=
 hB.fr h (fun e => by
  rcases e with e | e
  ·exact (hB.ne_ hg (fun h => h1 h.symm)) e
  ·exact ho.ne_blk hB h2 e)
theorem own8_new {w : World} {base : Nat} {v : Value} {bs : List Int} (h : Own8 w base v bs) : v.ownBlock ≠ some w.heap.size := fun e => Nat.lt_irrefl _ (h.lt _ e)
theorem ref11_Put1 (w : World) (kind txn : Int) (yes : Bool) (ff tt : ByteArray) (epoch shard target root : Int) :
  Calls Tryz.prog 12 #[.agg #[.int .i64 kind, .int .i64 txn, .bool yes, .string ff, .string tt, .int .i64 epoch, .int .i64 shard, .int .i64 target, .int .i64 root]] w (Fresh w (if OkSay ⟨kind, txn, yes, ff, tt, epoch, shard, target, root⟩ then sayB ⟨kind, txn, yes, ff, tt, epoch, shard, target, root⟩ else [])) := by
 have HR := fun w => ref11_Right1 w kind txn yes ff tt epoch shard target root
 by_cases hok : OkSay ⟨kind, txn, yes, ff, tt, epoch, shard, target, root⟩
 ·rw [if_pos hok]
  rw [decide_eq_true hok] at HR
  have HR := Lib.hid HR
  have h16 : Hid (ff.size ≤ 16 ∧ tt.size ≤ 16) := by
   obtain ⟨a0, a1, a2, a3, a4, a5, a6, a7, a8, a9, a10, a11, a12, a13⟩ := hok
   dsimp only at a6 a7
   exact ⟨by omega, by omega⟩
  clear hok
  have h16f : ff.size ≤ 16 := h16.out.1
  have h16t : tt.size ≤ 16 := h16.out.2
  have hB0 := Blk.new w 23 #[.int .i64 kind, .int .i64 txn, .bool yes, .string ff, .string tt, .int .i64 epoch, .int .i64 shard, .int .i64 target, .int .i64 root]
  have hf0 : Fr (fun _ => False) w (w.alloc (Obj.cells #[.int .i64 kind, .int .i64 txn, .bool yes, .string ff, .string tt, .int .i64 epoch, .int .i64 shard, .int .i64 target, .int .i64 root] 23)) := (Fr.refl _ _).alloc _
  cases yes with
  | true =>
   go_enter Tryz.func12, Tryz.ntmps12
   go_wp2_with fail
   refine (HR.out _).mono ?_
   rintro e w1 ⟨rfl, hf01⟩
   have hB1 := hB0.fr hf01 id
   have hf1 := hf0.then_ hf01
   obtain ⟨g, hg⟩ : ∃ g, Hid (w1.heap.size = g) := ⟨_, rfl⟩
   have hsg : w.heap.size ≤ g := by rw [← hg.out]; exact hf1.size
   obtain ⟨b0, hb0⟩ : ∃ b : List Int, Hid (([] : List Int) = b) := ⟨_, rfl⟩
   have hl0 : b0.length = 0 := by rw [← hb0.out]; rfl
   have hW2 : RefW (w1.alloc (Obj.cells #[.slice none 0 0, .int .i64 0, .int .i64 0] 94)) w1.heap.size w1.heap.size (.slice none 0 0) [] none := ⟨Blk.new _ _ _, Own8.nil _ _⟩
   have hf2 : Fr (fun _ => False) w (w1.alloc (Obj.cells #[.slice none 0 0, .int .i64 0, .int .i64 0] 94)) := hf1.alloc _
   have hB2 := hB1.alloc (Obj.cells #[.slice none 0 0, .int .i64 0, .int .i64 0] 94)
   have hz2 : w1.heap.size ≤ (w1.alloc (Obj.cells #[.slice none 0 0, .int .i64 0, .int .i64 0] 94)).heap.size := by simp
   have hc2 := hB2.cell 0
   clear hB0 hf0 HR hf01 hB1 hf1
   rw [hb0.out] at hW2
   go_wp2_with fail
   rw [hg.out] at hW2 hz2 ⊢
   generalize w1.alloc (Obj.cells #[.slice none 0 0, .int .i64 0, .int .i64 0] 94) = w2 at *
   refine (refw_Num hW2 hz2 (by omega) (kind)).mono ?_
   rintro e w3 ⟨v3, rfl, hW3, hq3, _⟩
   have hW3 : RefW w3 g g v3 (b0 ++ num8 (kind)) none := hW3
   obtain ⟨b1, hb1⟩ : ∃ b, Hid (b0 ++ num8 (kind) = b) := ⟨_, rfl⟩
   rw [hb1.out] at hW3
   have hl1 : b1.length = b0.length + 8 := by rw [← hb1.out, List.length_append]; simp [num8_length]
   have hB3 := wrote_blk hB2 hW2.blk hW2.own hq3 (by decide) (by decide)
   have hf3 := wrote_fr hf2 hW2.own hsg hsg hq3
   have hz3 : g ≤ w3.heap.size := Nat.le_of_lt hW3.blk.lt
   clear hq3 hW2 hB2 hf2
   have hc3 := hB3.cell 1
   go_wp2_with fail
   refine (refw_Num hW3 hz3 (by omega) (txn)).mono ?_
   rintro e w4 ⟨v4, rfl, hW4, hq4, _⟩
   have hW4 : RefW w4 g g v4 (b1 ++ num8 (txn)) none := hW4
   obtain ⟨b2, hb2⟩ : ∃ b, Hid (b1 ++ num8 (txn) = b) := ⟨_, rfl⟩
   rw [hb2.out] at hW4
   have hl2 : b2.length = b1.length + 8 := by rw [← hb2.out, List.length_append]; simp [num8_length]
   have hB4 := wrote_blk hB3 hW3.blk hW3.own hq4 (by decide) (by decide)
   have hf4 := wrote_fr hf3 hW3.own hsg hsg hq4
   have hz4 : g ≤ w4.heap.size := Nat.le_of_lt hW4.blk.lt
   clear hq4 hW3 hB3 hf3
   have hc4 := hB4.cell 2
   go_wp2_with fail
   refine (refw_Num hW4 hz4 (by omega) (1)).mono ?_
   rintro e w5 ⟨v5, rfl, hW5, hq5, _⟩
   have hW5 : RefW w5 g g v5 (b2 ++ num8 (1)) none := hW5
   obtain ⟨b3, hb3⟩ : ∃ b, Hid (b2 ++ num8 (1) = b) := ⟨_, rfl⟩
   rw [hb3.out] at hW5
   have hl3 : b3.length = b2.length + 8 := by rw [← hb3.out, List.length_append]; simp [num8_length]
   have hB5 := wrote_blk hB4 hW4.blk hW4.own hq5 (by decide) (by decide)
   have hf5 := wrote_fr hf4 hW4.own hsg hsg hq5
   have hz5 : g ≤ w5.heap.size := Nat.le_of_lt hW5.blk.lt
   clear hq5 hW4 hB4 hf4
   have hc5 := hB5.cell 3
   have hcs5 := run_str w5 ff
   have hws5 := hW5.fr (strW_fr w5 ff) id (fun _ _ => id)
   have hbs5 := hB5.fr (strW_fr w5 ff) id
   have hfs5 := hf5.then_ (strW_fr w5 ff)
   have hzs5 : g ≤ (strW w5 ff).heap.size := Nat.le_trans hz5 (strW_fr w5 ff).size
   have HT5 := refw_Text (cap := grownCap w5 ff.size 0 5) hws5 hzs5 (strW_row w5 ff) (fun k e1 e2 => own8_new hW5.own (e1 ▸ e2)) (by rw [bytesOf_length]; have := h16.out; omega) (.inl (by rw [bytesOf_length]; have := h16.out; omega))
   rw [bytesOf_length, if_pos (by have := h16.out; omega)] at HT5
   have HT5 := Lib.hid HT5
   go_wp2_with fail
   clear hcs5
   refine HT5.out.mono ?_
   rintro e w6 ⟨v6, rfl, hW6, hq6, _⟩
   have hW6 : RefW w6 g g v6 (b3 ++ textB (bytesOf ff)) none := hW6
   obtain ⟨b4, hb4⟩ : ∃ b, Hid (b3 ++ textB (bytesOf ff) = b) := ⟨_, rfl⟩
   rw [hb4.out] at hW6
   have hl4 : b4.length = b3.length + (4 + ff.size) := by rw [← hb4.out, List.length_append]; simp [textB, count4_length, bytesOf_length]
   have hB6 := wrote_blk hbs5 hws5.blk hws5.own hq6 (by decide) (by decide)
   have hf6 := wrote_fr hfs5 hws5.own hsg hsg hq6
   have hz6 : g ≤ w6.heap.size := Nat.le_of_lt hW6.blk.lt
   clear hq6 hW5 hB5 hf5 hws5 hbs5 hfs5 HT5 hzs5
   have hc6 := hB6.cell 4
   have hcs6 := run_str w6 tt
   have hws6 := hW6.fr (strW_fr w6 tt) id (fun _ _ => id)
   have hbs6 := hB6.fr (strW_fr w6 tt) id
   have hfs6 := hf6.then_ (strW_fr w6 tt)
   have hzs6 : g ≤ (strW w6 tt).heap.size := Nat.le_trans hz6 (strW_fr w6 tt).size
   have HT6 := refw_Text (cap := grownCap w6 tt.size 0 5) hws6 hzs6 (strW_row w6 tt) (fun k e1 e2 => own8_new hW6.own (e1 ▸ e2)) (by rw [bytesOf_length]; have := h16.out; omega) (.inl (by rw [bytesOf_length]; have := h16.out; omega))
   rw [bytesOf_length, if_pos (by have := h16.out; omega)] at HT6
   have HT6 := Lib.hid HT6
   go_wp2_with fail
   clear hcs6
   refine HT6.out.mono ?_
   rintro e w7 ⟨v7, rfl, hW7, hq7, _⟩
   have hW7 : RefW w7 g g v7 (b4 ++ textB (bytesOf tt)) none := hW7
   obtain ⟨b5, hb5⟩ : ∃ b, Hid (b4 ++ textB (bytesOf tt) = b) := ⟨_, rfl⟩
   rw [hb5.out] at hW7
   have hl5 : b5.length = b4.length + (4 + tt.size) := by rw [← hb5.out, List.length_append]; simp [textB, count4_length, bytesOf_length]
   have hB7 := wrote_blk hbs6 hws6.blk hws6.own hq7 (by decide) (by decide)
   have hf7 := wrote_fr hfs6 hws6.own hsg hsg hq7
   have hz7 : g ≤ w7.heap.size := Nat.le_of_lt hW7.blk.lt
   clear hq7 hW6 hB6 hf6 hws6 hbs6 hfs6 HT6 hzs6
   have hc7 := hB7.cell 5
   go_wp2_with fail
   refine (refw_Num hW7 hz7 (by omega) (epoch)).mono ?_
   rintro e w8 ⟨v8, rfl, hW8, hq8, _⟩
   have hW8 : RefW w8 g g v8 (b5 ++ num8 (epoch)) none := hW8
   obtain ⟨b6, hb6⟩ : ∃ b, Hid (b5 ++ num8 (epoch) = b) := ⟨_, rfl⟩
   rw [hb6.out] at hW8
   have hl6 : b6.length = b5.length + 8 := by rw [← hb6.out, List.length_append]; simp [num8_length]
   have hB8 := wrote_blk hB7 hW7.blk hW7.own hq8 (by decide) (by decide)
   have hf8 := wrote_fr hf7 hW7.own hsg hsg hq8
   have hz8 : g ≤ w8.heap.size := Nat.le_of_lt hW8.blk.lt
   clear hq8 hW7 hB7 hf7
   have hc8 := hB8.cell 6
   go_wp2_with fail
   refine (refw_Num hW8 hz8 (by omega) (shard)).mono ?_
   rintro e w9 ⟨v9, rfl, hW9, hq9, _⟩
   have hW9 : RefW w9 g g v9 (b6 ++ num8 (shard)) none := hW9
   obtain ⟨b7, hb7⟩ : ∃ b, Hid (b6 ++ num8 (shard) = b) := ⟨_, rfl⟩
   rw [hb7.out] at hW9
   have hl7 : b7.length = b6.length + 8 := by rw [← hb7.out, List.length_append]; simp [num8_length]
   have hB9 := wrote_blk hB8 hW8.blk hW8.own hq9 (by decide) (by decide)
   have hf9 := wrote_fr hf8 hW8.own hsg hsg hq9
   have hz9 : g ≤ w9.heap.size := Nat.le_of_lt hW9.blk.lt
   clear hq9 hW8 hB8 hf8
   have hc9 := hB9.cell 7
   go_wp2_with fail
   refine (refw_Num hW9 hz9 (by omega) (target)).mono ?_
   rintro e w10 ⟨v10, rfl, hW10, hq10, _⟩
   have hW10 : RefW w10 g g v10 (b7 ++ num8 (target)) none := hW10
   obtain ⟨b8, hb8⟩ : ∃ b, Hid (b7 ++ num8 (target) = b) := ⟨_, rfl⟩
   rw [hb8.out] at hW10
   have hl8 : b8.length = b7.length + 8 := by rw [← hb8.out, List.length_append]; simp [num8_length]
   have hB10 := wrote_blk hB9 hW9.blk hW9.own hq10 (by decide) (by decide)
   have hf10 := wrote_fr hf9 hW9.own hsg hsg hq10
   have hz10 : g ≤ w10.heap.size := Nat.le_of_lt hW10.blk.lt
   clear hq10 hW9 hB9 hf9
   have hc10 := hB10.cell 8
   go_wp2_with fail
   refine (refw_Num hW10 hz10 (by omega) (root)).mono ?_
   rintro e w11 ⟨v11, rfl, hW11, hq11, _⟩
   have hW11 : RefW w11 g g v11 (b8 ++ num8 (root)) none := hW11
   obtain ⟨b9, hb9⟩ : ∃ b, Hid (b8 ++ num8 (root) = b) := ⟨_, rfl⟩
   rw [hb9.out] at hW11
   have hl9 : b9.length = b8.length + 8 := by rw [← hb9.out, List.length_append]; simp [num8_length]
   have hB11 := wrote_blk hB10 hW10.blk hW10.own hq11 (by decide) (by decide)
   have hf11 := wrote_fr hf10 hW10.own hsg hsg hq11
   have hz11 : g ≤ w11.heap.size := Nat.le_of_lt hW11.blk.lt
   clear hq11 hW10 hB10 hf10
   go_wp2_with fail
   refine (refw_Bytes hW11 (by omega)).mono ?_
   rintro e wz ⟨vz, rfl, hvz, hfz⟩
   go_wp2_with fail
   go_ret
   have he : sayB ⟨kind, txn, true, ff, tt, epoch, shard, target, root⟩ = b9 := by
    unfold sayB yesI
    have e0 : num8 kind = b1 := by rw [← hb1.out, ← hb0.out]; rfl
    dsimp only
    simp only [if_true, e0, hb2.out, hb3.out, hb4.out, hb5.out, hb6.out, hb7.out, hb8.out, hb9.out]
   rw [he]
   exact ⟨vz, rfl, own_base hvz (hf11.size), hf11.then_ hfz⟩
  | false =>
   go_enter Tryz.func12, Tryz.ntmps12
   go_wp2_with fail
   refine (HR.out _).mono ?_
   rintro e w1 ⟨rfl, hf01⟩
   have hB1 := hB0.fr hf01 id
   have hf1 := hf0.then_ hf01
   obtain ⟨g, hg⟩ : ∃ g, Hid (w1.heap.size = g) := ⟨_, rfl⟩
   have hsg : w.heap.size ≤ g := by rw [← hg.out]; exact hf1.size
   obtain ⟨b0, hb0⟩ : ∃ b : List Int, Hid (([] : List Int) = b) := ⟨_, rfl⟩
   have hl0 : b0.length = 0 := by rw [← hb0.out]; rfl
   have hW2 : RefW (w1.alloc (Obj.cells #[.slice none 0 0, .int .i64 0, .int .i64 0] 94)) w1.heap.size w1.heap.size (.slice none 0 0) [] none := ⟨Blk.new _ _ _, Own8.nil _ _⟩
   have hf2 : Fr (fun _ => False) w (w1.alloc (Obj.cells #[.slice none 0 0, .int .i64 0, .int .i64 0] 94)) := hf1.alloc _
   have hB2 := hB1.alloc (Obj.cells #[.slice none 0 0, .int .i64 0, .int .i64 0] 94)
   have hz2 : w1.heap.size ≤ (w1.alloc (Obj.cells #[.slice none 0 0, .int .i64 0, .int .i64 0] 94)).heap.size := by simp
   have hc2 := hB2.cell 0
   clear hB0 hf0 HR hf01 hB1 hf1
   rw [hb0.out] at hW2
   go_wp2_with fail
   rw [hg.out] at hW2 hz2 ⊢
   generalize w1.alloc (Obj.cells #[.slice none 0 0, .int .i64 0, .int .i64 0] 94) = w2 at *
   refine (refw_Num hW2 hz2 (by omega) (kind)).mono ?_
   rintro e w3 ⟨v3, rfl, hW3, hq3, _⟩
   have hW3 : RefW w3 g g v3 (b0 ++ num8 (kind)) none := hW3
   obtain ⟨b1, hb1⟩ : ∃ b, Hid (b0 ++ num8 (kind) = b) := ⟨_, rfl⟩
   rw [hb1.out] at hW3
   have hl1 : b1.length = b0.length + 8 := by rw [← hb1.out, List.length_append]; simp [num8_length]
   have hB3 := wrote_blk hB2 hW2.blk hW2.own hq3 (by decide) (by decide)
   have hf3 := wrote_fr hf2 hW2.own hsg hsg hq3
   have hz3 : g ≤ w3.heap.size := Nat.le_of_lt hW3.blk.lt
   clear hq3 hW2 hB2 hf2
   have hc3 := hB3.cell 1
   go_wp2_with fail
   refine (refw_Num hW3 hz3 (by omega) (txn)).mono ?_
   rintro e w4 ⟨v4, rfl, hW4, hq4, _⟩
   have hW4 : RefW w4 g g v4 (b1 ++ num8 (txn)) none := hW4
   obtain ⟨b2, hb2⟩ : ∃ b, Hid (b1 ++ num8 (txn) = b) := ⟨_, rfl⟩
   rw [hb2.out] at hW4
   have hl2 : b2.length = b1.length + 8 := by rw [← hb2.out, List.length_append]; simp [num8_length]
   have hB4 := wrote_blk hB3 hW3.blk hW3.own hq4 (by decide) (by decide)
   have hf4 := wrote_fr hf3 hW3.own hsg hsg hq4
   have hz4 : g ≤ w4.heap.size := Nat.le_of_lt hW4.blk.lt
   clear hq4 hW3 hB3 hf3
   have hc4 := hB4.cell 2
   go_wp2_with fail
   refine (refw_Num hW4 hz4 (by omega) (0)).mono ?_
   rintro e w5 ⟨v5, rfl, hW5, hq5, _⟩
   have hW5 : RefW w5 g g v5 (b2 ++ num8 (0)) none := hW5
   obtain ⟨b3, hb3⟩ : ∃ b, Hid (b2 ++ num8 (0) = b) := ⟨_, rfl⟩
   rw [hb3.out] at hW5
   have hl3 : b3.length = b2.length + 8 := by rw [← hb3.out, List.length_append]; simp [num8_length]
   have hB5 := wrote_blk hB4 hW4.blk hW4.own hq5 (by decide) (by decide)
   have hf5 := wrote_fr hf4 hW4.own hsg hsg hq5
   have hz5 : g ≤ w5.heap.size := Nat.le_of_lt hW5.blk.lt
   clear hq5 hW4 hB4 hf4
   have hc5 := hB5.cell 3
   have hcs5 := run_str w5 ff
   have hws5 := hW5.fr (strW_fr w5 ff) id (fun _ _ => id)
   have hbs5 := hB5.fr (strW_fr w5 ff) id
   have hfs5 := hf5.then_ (strW_fr w5 ff)
   have hzs5 : g ≤ (strW w5 ff).heap.size := Nat.le_trans hz5 (strW_fr w5 ff).size
   have HT5 := refw_Text (cap := grownCap w5 ff.size 0 5) hws5 hzs5 (strW_row w5 ff) (fun k e1 e2 => own8_new hW5.own (e1 ▸ e2)) (by rw [bytesOf_length]; have := h16.out; omega) (.inl (by rw [bytesOf_length]; have := h16.out; omega))
   rw [bytesOf_length, if_pos (by have := h16.out; omega)] at HT5
   have HT5 := Lib.hid HT5
   go_wp2_with fail
   clear hcs5
   refine HT5.out.mono ?_
   rintro e w6 ⟨v6, rfl, hW6, hq6, _⟩
   have hW6 : RefW w6 g g v6 (b3 ++ textB (bytesOf ff)) none := hW6
   obtain ⟨b4, hb4⟩ : ∃ b, Hid (b3 ++ textB (bytesOf ff) = b) := ⟨_, rfl⟩
   rw [hb4.out] at hW6
   have hl4 : b4.length = b3.length + (4 + ff.size) := by rw [← hb4.out, List.length_append]; simp [textB, count4_length, bytesOf_length]
   have hB6 := wrote_blk hbs5 hws5.blk hws5.own hq6 (by decide) (by decide)
   have hf6 := wrote_fr hfs5 hws5.own hsg hsg hq6
   have hz6 : g ≤ w6.heap.size := Nat.le_of_lt hW6.blk.lt
   clear hq6 hW5 hB5 hf5 hws5 hbs5 hfs5 HT5 hzs5
   have hc6 := hB6.cell 4
   have hcs6 := run_str w6 tt
   have hws6 := hW6.fr (strW_fr w6 tt) id (fun _ _ => id)
   have hbs6 := hB6.fr (strW_fr w6 tt) id
   have hfs6 := hf6.then_ (strW_fr w6 tt)
   have hzs6 : g ≤ (strW w6 tt).heap.size := Nat.le_trans hz6 (strW_fr w6 tt).size
   have HT6 := refw_Text (cap := grownCap w6 tt.size 0 5) hws6 hzs6 (strW_row w6 tt) (fun k e1 e2 => own8_new hW6.own (e1 ▸ e2)) (by rw [bytesOf_length]; have := h16.out; omega) (.inl (by rw [bytesOf_length]; have := h16.out; omega))
   rw [bytesOf_length, if_pos (by have := h16.out; omega)] at HT6
   have HT6 := Lib.hid HT6
   go_wp2_with fail
   clear hcs6
   refine HT6.out.mono ?_
   rintro e w7 ⟨v7, rfl, hW7, hq7, _⟩
   have hW7 : RefW w7 g g v7 (b4 ++ textB (bytesOf tt)) none := hW7
   obtain ⟨b5, hb5⟩ : ∃ b, Hid (b4 ++ textB (bytesOf tt) = b) := ⟨_, rfl⟩
   rw [hb5.out] at hW7
   have hl5 : b5.length = b4.length + (4 + tt.size) := by rw [← hb5.out, List.length_append]; simp [textB, count4_length, bytesOf_length]
   have hB7 := wrote_blk hbs6 hws6.blk hws6.own hq7 (by decide) (by decide)
   have hf7 := wrote_fr hfs6 hws6.own hsg hsg hq7
   have hz7 : g ≤ w7.heap.size := Nat.le_of_lt hW7.blk.lt
   clear hq7 hW6 hB6 hf6 hws6 hbs6 hfs6 HT6 hzs6
   have hc7 := hB7.cell 5
   go_wp2_with fail
   refine (refw_Num hW7 hz7 (by omega) (epoch)).mono ?_
   rintro e w8 ⟨v8, rfl, hW8, hq8, _⟩
   have hW8 : RefW w8 g g v8 (b5 ++ num8 (epoch)) none := hW8
   obtain ⟨b6, hb6⟩ : ∃ b, Hid (b5 ++ num8 (epoch) = b) := ⟨_, rfl⟩
   rw [hb6.out] at hW8
   have hl6 : b6.length = b5.length + 8 := by rw [← hb6.out, List.length_append]; simp [num8_length]
   have hB8 := wrote_blk hB7 hW7.blk hW7.own hq8 (by decide) (by decide)
   have hf8 := wrote_fr hf7 hW7.own hsg hsg hq8
   have hz8 : g ≤ w8.heap.size := Nat.le_of_lt hW8.blk.lt
   clear hq8 hW7 hB7 hf7
   have hc8 := hB8.cell 6
   go_wp2_with fail
   refine (refw_Num hW8 hz8 (by omega) (shard)).mono ?_
   rintro e w9 ⟨v9, rfl, hW9, hq9, _⟩
   have hW9 : RefW w9 g g v9 (b6 ++ num8 (shard)) none := hW9
   obtain ⟨b7, hb7⟩ : ∃ b, Hid (b6 ++ num8 (shard) = b) := ⟨_, rfl⟩
   rw [hb7.out] at hW9
   have hl7 : b7.length = b6.length + 8 := by rw [← hb7.out, List.length_append]; simp [num8_length]
   have hB9 := wrote_blk hB8 hW8.blk hW8.own hq9 (by decide) (by decide)
   have hf9 := wrote_fr hf8 hW8.own hsg hsg hq9
   have hz9 : g ≤ w9.heap.size := Nat.le_of_lt hW9.blk.lt
   clear hq9 hW8 hB8 hf8
   have hc9 := hB9.cell 7
   go_wp2_with fail
   refine (refw_Num hW9 hz9 (by omega) (target)).mono ?_
   rintro e w10 ⟨v10, rfl, hW10, hq10, _⟩
   have hW10 : RefW w10 g g v10 (b7 ++ num8 (target)) none := hW10
   obtain ⟨b8, hb8⟩ : ∃ b, Hid (b7 ++ num8 (target) = b) := ⟨_, rfl⟩
   rw [hb8.out] at hW10
   have hl8 : b8.length = b7.length + 8 := by rw [← hb8.out, List.length_append]; simp [num8_length]
   have hB10 := wrote_blk hB9 hW9.blk hW9.own hq10 (by decide) (by decide)
   have hf10 := wrote_fr hf9 hW9.own hsg hsg hq10
   have hz10 : g ≤ w10.heap.size := Nat.le_of_lt hW10.blk.lt
   clear hq10 hW9 hB9 hf9
   have hc10 := hB10.cell 8
   go_wp2_with fail
   refine (refw_Num hW10 hz10 (by omega) (root)).mono ?_
   rintro e w11 ⟨v11, rfl, hW11, hq11, _⟩
   have hW11 : RefW w11 g g v11 (b8 ++ num8 (root)) none := hW11
   obtain ⟨b9, hb9⟩ : ∃ b, Hid (b8 ++ num8 (root) = b) := ⟨_, rfl⟩
   rw [hb9.out] at hW11
   have hl9 : b9.length = b8.length + 8 := by rw [← hb9.out, List.length_append]; simp [num8_length]
   have hB11 := wrote_blk hB10 hW10.blk hW10.own hq11 (by decide) (by decide)
   have hf11 := wrote_fr hf10 hW10.own hsg hsg hq11
   have hz11 : g ≤ w11.heap.size := Nat.le_of_lt hW11.blk.lt
   clear hq11 hW10 hB10 hf10
   go_wp2_with fail
   refine (refw_Bytes hW11 (by omega)).mono ?_
   rintro e wz ⟨vz, rfl, hvz, hfz⟩
   go_wp2_with fail
   go_ret
   have he : sayB ⟨kind, txn, false, ff, tt, epoch, shard, target, root⟩ = b9 := by
    unfold sayB yesI
    have e0 : num8 kind = b1 := by rw [← hb1.out, ← hb0.out]; rfl
    dsimp only
    simp only [if_false, Bool.false_eq_true, e0, hb2.out, hb3.out, hb4.out, hb5.out, hb6.out, hb7.out, hb8.out, hb9.out]
   rw [he]
   exact ⟨vz, rfl, own_base hvz (hf11.size), hf11.then_ hfz⟩
 ·rw [if_neg hok]
  rw [decide_eq_false hok] at HR
  have HR := Lib.hid HR
  clear hok
  go_enter Tryz.func12, Tryz.ntmps12
  go_wp2_with (go_at_call 29; refine (HR.out _).mono ?_; rintro e w1 ⟨rfl, hf01⟩)
  go_ret
  exact ⟨_, rfl, Own8.nil _ _, ((Fr.refl (fun _ => False) w).alloc _).then_ hf01⟩
def intsA (l : List Int) : Array Value := (l.map fun x => Value.int .i64 x).toArray
theorem intsA_at {l : List Int} {q : Nat} {x : Int} (h : l[q]? = some x) : (intsA l)[q]? = some (.int .i64 x) := by
 rw [intsA, List.getElem?_toArray, List.getElem?_map, h]
 rfl
def PutS (w : World) (s : SayD) (e : Ending) (w' : World) : Prop :=
 ∃ v, e = .returned (.tuple #[v, errO (saidO s)]) ∧ Own8 w' w.heap.size v (if OkSay s then sayB s else []) ∧ Fr (fun _ => False) w w'
theorem say_Put1 (w : World) (kind txn : Int) (yes : Bool) (ff tt : ByteArray) (epoch shard target root : Int) :
  Calls Tryz.prog 77 #[.agg #[.int .i64 kind, .int .i64 txn, .bool yes, .string ff, .string tt, .int .i64 epoch, .int .i64 shard, .int .i64 target, .int .i64 root]] w (PutS w ⟨kind, txn, yes, ff, tt, epoch, shard, target, root⟩) := by
 have HR := fun w => say_Check1 w kind txn yes ff tt epoch shard target root
 by_cases hok : OkSay ⟨kind, txn, yes, ff, tt, epoch, shard, target, root⟩
 ·have hso : saidO ⟨kind, txn, yes, ff, tt, epoch, shard, target, root⟩ = none := if_pos hok
  unfold PutS
  rw [if_pos hok, hso]
  rw [hso] at HR
  have HR := Lib.hid HR
  have h16 : Hid (ff.size ≤ 16 ∧ tt.size ≤ 16) := by
   obtain ⟨a0, a1, a2, a3, a4, a5, a6, a7, a8, a9, a10, a11, a12, a13⟩ := hok
   dsimp only at a6 a7
   exact ⟨by omega, by omega⟩
  clear hok hso
  have h16f : ff.size ≤ 16 := h16.out.1
  have h16t : tt.size ≤ 16 := h16.out.2
  have hB0 := Blk.new w 23 #[.int .i64 kind, .int .i64 txn, .bool yes, .string ff, .string tt, .int .i64 epoch, .int .i64 shard, .int .i64 target, .int .i64 root]
  have hf0 : Fr (fun _ => False) w (w.alloc (Obj.cells #[.int .i64 kind, .int .i64 txn, .bool yes, .string ff, .string tt, .int .i64 epoch, .int .i64 shard, .int .i64 target, .int .i64 root] 23)) := (Fr.refl _ _).alloc _
  cases yes with
  | true =>
   go_enter Tryz.func77, Tryz.ntmps77
   go_wp2_with fail
   refine (HR.out _).mono ?_
   rintro e w1 ⟨rfl, hf01⟩
   have hB1 := hB0.fr hf01 id
   have hf1 := hf0.then_ hf01
   have hnil : errO none = .nilIface := rfl
   rw [hnil]
   have hcy := hB1.cell 2
   obtain ⟨gB, hgB⟩ : ∃ g, Hid (w.heap.size = g) := ⟨_, rfl⟩
   obtain ⟨g, hg⟩ : ∃ g, Hid (w1.heap.size = g) := ⟨_, rfl⟩
   have hsg : w.heap.size ≤ g := by rw [← hg.out]; exact hf1.size
   obtain ⟨b0, hb0⟩ : ∃ b : List Int, Hid (([] : List Int) = b) := ⟨_, rfl⟩
   have hl0 : b0.length = 0 := by rw [← hb0.out]; rfl
   obtain ⟨v2, hv2⟩ : ∃ v, Hid (Value.slice none 0 0 = v) := ⟨_, rfl⟩
   have hW2 : WriterAt ((w1.alloc (Obj.cells #[.slice none 0 0, .nilIface] 194)).alloc (Obj.cells #[.int .i64 kind, .int .i64 txn, .int .i64 1] 3)) w1.heap.size w1.heap.size (.slice none 0 0) b0 none := by rw [← hb0.out]; exact ⟨(Blk.new _ _ _).alloc _, Own8.nil _ _⟩
   have hB2 := (hB1.alloc (Obj.cells #[.slice none 0 0, .nilIface] 194)).alloc (Obj.cells #[.int .i64 kind, .int .i64 txn, .int .i64 1] 3)
   have hS3 : Blk ((w1.alloc (Obj.cells #[.slice none 0 0, .nilIface] 194)).alloc (Obj.cells #[.int .i64 kind, .int .i64 txn, .int .i64 1] 3)) (w1.heap.size + 1) 3 (intsA [kind, txn, 1]) := Blk.new_ _ _ _ (by simp)
   have hf2 := (hf1.alloc (Obj.cells #[.slice none 0 0, .nilIface] 194)).alloc (Obj.cells #[.int .i64 kind, .int .i64 txn, .int .i64 1] 3)
   have hz2 : w1.heap.size ≤ ((w1.alloc (Obj.cells #[.slice none 0 0, .nilIface] 194)).alloc (Obj.cells #[.int .i64 kind, .int .i64 txn, .int .i64 1] 3)).heap.size := by simp; omega
   have hq0 := (hB1.alloc (Obj.cells #[.slice none 0 0, .nilIface] 194)).cell 0
   have hq1 := (hB1.alloc (Obj.cells #[.slice none 0 0, .nilIface] 194)).cell 1
   clear hB0 hf0 HR hf01 hB1 hf1 hnil
   go_wp2_with fail
   rw [hg.out] at hW2 hS3 hz2 ⊢
   clear hq0 hq1 hcy
   generalize (w1.alloc (Obj.cells #[.slice none 0 0, .nilIface] 194)).alloc (Obj.cells #[.int .i64 kind, .int .i64 txn, .int .i64 1] 3) = w2 at *
   go_loopw [29] (fun ix wr => ∃ (q : Nat) (v : Value), q ≤ 3 ∧ ix = .int .i64 q ∧ WriterAt wr g g v (b0 ++ ([kind, txn, 1].take q).flatMap num8) none ∧ Blk wr w.heap.size 23 #[.int .i64 kind, .int .i64 txn, .bool true, .string ff, .string tt, .int .i64 epoch, .int .i64 shard, .int .i64 target, .int .i64 root] ∧ Blk wr (g + 1) 3 (intsA [kind, txn, 1]) ∧ Fr (fun _ => False) w wr) (fun ix _ => 3 - (intOf ix).toNat)
   case atStart => exact ⟨0, _, by omega, rfl, by rw [List.take_zero, List.flatMap_nil, List.append_nil]; exact hW2, hB2, hS3, hf2⟩
   case round =>
    clear hW2 hB2 hS3 hf2 hz2
    obtain ⟨q, v3, hq, rfl, hW3, hB3, hS3, hf3⟩ := hrel
    have hz3 : g ≤ wr.heap.size := Nat.le_of_lt hW3.blk.lt
    by_cases hlt : q < 3
    ·obtain ⟨x, hx⟩ : ∃ x, [kind, txn, 1][q]? = some x := ⟨[kind, txn, 1][q]'(by simpa using hlt), List.getElem?_eq_getElem _⟩
     have hcx := hS3.cell q
     rw [intsA_at hx] at hcx
     have HX := Lib.hid hx
     have hlf : (b0 ++ ([kind, txn, 1].take q).flatMap num8).length ≤ 10000 := by
      have h1 := flat_num8 ([kind, txn, 1].take q)
      rw [List.length_append, h1, List.length_take]
      omega
     clear hx
     go_wp2_with (go_at_call 98; refine (writer_Num hW3 hz3 (by omega) x).mono ?_; rintro e wn ⟨vn, rfl, hWn, hqn, _⟩)
     have hBn := wrote_blk hB3 hW3.blk hW3.own hqn (by decide) (by decide)
     have hSn := wrote_blk hS3 hW3.blk hW3.own hqn (by decide) (by decide)
     have hfn := wrote_fr hf3 hW3.own hsg hsg hqn
     go_roundw
     case rel => exact ⟨q + 1, vn, by omega, by go_num, by rw [flat_take num8 HX.out, ← List.append_assoc]; exact hWn, hBn, hSn, hfn⟩
     case measure => simp [intOf]; omega
    ·obtain rfl : q = 3 := by omega
     obtain ⟨b1, hb1⟩ : ∃ b, Hid (b0 ++ ([kind, txn, 1].take 3).flatMap num8 = b) := ⟨_, rfl⟩
     rw [hb1.out] at hW3
     have hl1 : b1.length = b0.length + 24 := by rw [← hb1.out, List.length_append, flat_num8]; rfl
     clear hlt hS3
     generalize wr = w3 at *
     have hc3_3 := hB3.cell 3
     have hcs3 := run_str w3 ff
     have hws3 := hW3.fr (strW_fr w3 ff) id (fun _ _ => id)
     have hbs3 := hB3.fr (strW_fr w3 ff) id
     have hfs3 := hf3.then_ (strW_fr w3 ff)
     have hzs3 : g ≤ (strW w3 ff).heap.size := Nat.le_trans hz3 (strW_fr w3 ff).size
     have HT3 := writer_Text (cap := grownCap w3 ff.size 0 5) hws3 hzs3 (strW_row w3 ff) (fun k e1 e2 => own8_new hW3.own (e1 ▸ e2)) (by rw [bytesOf_length]; have := h16.out; omega)
     rw [bytesOf_length, if_pos (by have := h16.out; omega)] at HT3
     have HT3 := Lib.hid HT3
     go_wp2_with fail
     clear hcs3
     refine HT3.out.mono ?_
     rintro e w4 ⟨v4, rfl, hW4, hq4, _⟩
     have hW4 : WriterAt w4 g g v4 (b1 ++ textB (bytesOf ff)) none := hW4
     obtain ⟨b2, hb2⟩ : ∃ b, Hid (b1 ++ textB (bytesOf ff) = b) := ⟨_, rfl⟩
     rw [hb2.out] at hW4
     have hl2 : b2.length = b1.length + (4 + ff.size) := by rw [← hb2.out, List.length_append]; simp [textB, count4_length, bytesOf_length]
     have hB4 := wrote_blk hbs3 hws3.blk hws3.own hq4 (by decide) (by decide)
     have hf4 := wrote_fr hfs3 hws3.own hsg hsg hq4
     have hz4 : g ≤ w4.heap.size := Nat.le_of_lt hW4.blk.lt
     clear hq4 hW3 hB3 hf3 hws3 hbs3 hfs3 HT3 hzs3
     have hc4_4 := hB4.cell 4
     have hcs4 := run_str w4 tt
     have hws4 := hW4.fr (strW_fr w4 tt) id (fun _ _ => id)
     have hbs4 := hB4.fr (strW_fr w4 tt) id
     have hfs4 := hf4.then_ (strW_fr w4 tt)
     have hzs4 : g ≤ (strW w4 tt).heap.size := Nat.le_trans hz4 (strW_fr w4 tt).size
     have HT4 := writer_Text (cap := grownCap w4 tt.size 0 5) hws4 hzs4 (strW_row w4 tt) (fun k e1 e2 => own8_new hW4.own (e1 ▸ e2)) (by rw [bytesOf_length]; have := h16.out; omega)
     rw [bytesOf_length, if_pos (by have := h16.out; omega)] at HT4
     have HT4 := Lib.hid HT4
     go_wp2_with fail
     clear hcs4
     refine HT4.out.mono ?_
     rintro e w5 ⟨v5, rfl, hW5, hq5, _⟩
     have hW5 : WriterAt w5 g g v5 (b2 ++ textB (bytesOf tt)) none := hW5
     obtain ⟨b3, hb3⟩ : ∃ b, Hid (b2 ++ textB (bytesOf tt) = b) := ⟨_, rfl⟩
     rw [hb3.out] at hW5
     have hl3 : b3.length = b2.length + (4 + tt.size) := by rw [← hb3.out, List.length_append]; simp [textB, count4_length, bytesOf_length]
     have hB5 := wrote_blk hbs4 hws4.blk hws4.own hq5 (by decide) (by decide)
     have hf5 := wrote_fr hfs4 hws4.own hsg hsg hq5
     have hz5 : g ≤ w5.heap.size := Nat.le_of_lt hW5.blk.lt
     clear hq5 hW4 hB4 hf4 hws4 hbs4 hfs4 HT4 hzs4
     have hc5_5 := hB5.cell 5
     go_wp2_with fail
     refine (writer_Num hW5 hz5 (by omega) (epoch)).mono ?_
     rintro e w6 ⟨v6, rfl, hW6, hq6, _⟩
     have hW6 : WriterAt w6 g g v6 (b3 ++ num8 (epoch)) none := hW6
     obtain ⟨b4, hb4⟩ : ∃ b, Hid (b3 ++ num8 (epoch) = b) := ⟨_, rfl⟩
     rw [hb4.out] at hW6
     have hl4 : b4.length = b3.length + 8 := by rw [← hb4.out, List.length_append]; simp [num8_length]
     have hB6 := wrote_blk hB5 hW5.blk hW5.own hq6 (by decide) (by decide)
     have hf6 := wrote_fr hf5 hW5.own hsg hsg hq6
     have hz6 : g ≤ w6.heap.size := Nat.le_of_lt hW6.blk.lt
     clear hq6 hW5 hB5 hf5
     have hc6_6 := hB6.cell 6
     have hc6_7 := hB6.cell 7
     have hc6_8 := hB6.cell 8
     have hW7 := hW6.fr ((Fr.refl (fun _ => False) w6).alloc (Obj.cells #[.int .i64 shard, .int .i64 target, .int .i64 root] 3)) id (fun _ _ => id)
     have hB7 := hB6.alloc (Obj.cells #[.int .i64 shard, .int .i64 target, .int .i64 root] 3)
     have hS8 : Blk (w6.alloc (Obj.cells #[.int .i64 shard, .int .i64 target, .int .i64 root] 3)) w6.heap.size 3 (intsA [shard, target, root]) := Blk.new _ _ _
     have hf7 := hf6.alloc (Obj.cells #[.int .i64 shard, .int .i64 target, .int .i64 root] 3)
     have hz7 : g ≤ (w6.alloc (Obj.cells #[.int .i64 shard, .int .i64 target, .int .i64 root] 3)).heap.size := Nat.le_trans hz6 (by simp)
     go_wp2_with fail
     clear hW6 hB6 hf6 hz6
     obtain ⟨gs, hgs⟩ : ∃ g, Hid (w6.heap.size = g) := ⟨_, rfl⟩
     rw [hgs.out] at hS8 ⊢
     generalize w6.alloc (Obj.cells #[.int .i64 shard, .int .i64 target, .int .i64 root] 3) = w7 at *
     go_loopw [59] (fun ix wr => ∃ (q : Nat) (v : Value), q ≤ 3 ∧ ix = .int .i64 q ∧ WriterAt wr g g v (b4 ++ ([shard, target, root].take q).flatMap num8) none ∧ Blk wr w.heap.size 23 #[.int .i64 kind, .int .i64 txn, .bool true, .string ff, .string tt, .int .i64 epoch, .int .i64 shard, .int .i64 target, .int .i64 root] ∧ Blk wr (gs) 3 (intsA [shard, target, root]) ∧ Fr (fun _ => False) w wr) (fun ix _ => 3 - (intOf ix).toNat)
     case atStart => exact ⟨0, _, by omega, rfl, by rw [List.take_zero, List.flatMap_nil, List.append_nil]; exact hW7, hB7, hS8, hf7⟩
     case round =>
      clear hW7 hB7 hS8 hf7 hz7
      obtain ⟨q, v8, hq, rfl, hW8, hB8, hS8, hf8⟩ := hrel
      have hz8 : g ≤ wr.heap.size := Nat.le_of_lt hW8.blk.lt
      by_cases hlt : q < 3
      ·obtain ⟨x, hx⟩ : ∃ x, [shard, target, root][q]? = some x := ⟨[shard, target, root][q]'(by simpa using hlt), List.getElem?_eq_getElem _⟩
       have hcx := hS8.cell q
       rw [intsA_at hx] at hcx
       have HX := Lib.hid hx
       have hlf : (b4 ++ ([shard, target, root].take q).flatMap num8).length ≤ 10000 := by
        have h1 := flat_num8 ([shard, target, root].take q)
        rw [List.length_append, h1, List.length_take]
        omega
       clear hx
       go_wp2_with (go_at_call 98; refine (writer_Num hW8 hz8 (by omega) x).mono ?_; rintro e wn ⟨vn, rfl, hWn, hqn, _⟩)
       have hBn := wrote_blk hB8 hW8.blk hW8.own hqn (by decide) (by decide)
       have hSn := wrote_blk hS8 hW8.blk hW8.own hqn (by decide) (by decide)
       have hfn := wrote_fr hf8 hW8.own hsg hsg hqn
       go_roundw
       case rel => exact ⟨q + 1, vn, by omega, by go_num, by rw [flat_take num8 HX.out, ← List.append_assoc]; exact hWn, hBn, hSn, hfn⟩
       case measure => simp [intOf]; omega
      ·obtain rfl : q = 3 := by omega
       obtain ⟨b5, hb5⟩ : ∃ b, Hid (b4 ++ ([shard, target, root].take 3).flatMap num8 = b) := ⟨_, rfl⟩
       rw [hb5.out] at hW8
       have hl5 : b5.length = b4.length + 24 := by rw [← hb5.out, List.length_append, flat_num8]; rfl
       clear hlt hS8
       generalize wr = w8 at *
       go_wp2_with fail
       refine (writer_Bytes hW8 (by omega)).mono ?_
       rintro e wz ⟨vz, rfl, hvz, hfz⟩
       have hvz : Own8 wz w8.heap.size vz b5 := hvz
       have hnil2 : errW none = .nilIface := rfl
       rw [hnil2]
       clear hnil2
       have hBz := hB8.fr hfz id
       have hcz := hBz.cell 0
       go_wp2_with (go_at_call 70; refine (fault_Wrap_nil _ _ _).mono ?_; rintro e w' ⟨rfl, rfl⟩)
       refine bodyPost_ret (v := .tuple #[vz, .nilIface]) (by simp [results, Tryz.results77, go_sem]) rfl ?_
       have he : sayB ⟨kind, txn, true, ff, tt, epoch, shard, target, root⟩ = b5 := by
        have e1 : num8 kind ++ num8 txn ++ num8 1 = b1 := by rw [← hb1.out, ← hb0.out]; simp
        have e5 : b4 ++ num8 shard ++ num8 target ++ num8 root = b5 := by rw [← hb5.out]; simp
        unfold sayB yesI
        dsimp only
        simp only [if_true, e1, hb2.out, hb3.out, hb4.out, e5]
       rw [he]
       exact ⟨vz, rfl, own_base hvz (hf8.size), hf8.then_ hfz⟩
  | false =>
   go_enter Tryz.func77, Tryz.ntmps77
   go_wp2_with fail
   refine (HR.out _).mono ?_
   rintro e w1 ⟨rfl, hf01⟩
   have hB1 := hB0.fr hf01 id
   have hf1 := hf0.then_ hf01
   have hnil : errO none = .nilIface := rfl
   rw [hnil]
   have hcy := hB1.cell 2
   obtain ⟨gB, hgB⟩ : ∃ g, Hid (w.heap.size = g) := ⟨_, rfl⟩
   obtain ⟨g, hg⟩ : ∃ g, Hid (w1.heap.size = g) := ⟨_, rfl⟩
   have hsg : w.heap.size ≤ g := by rw [← hg.out]; exact hf1.size
   obtain ⟨b0, hb0⟩ : ∃ b : List Int, Hid (([] : List Int) = b) := ⟨_, rfl⟩
   have hl0 : b0.length = 0 := by rw [← hb0.out]; rfl
   obtain ⟨v2, hv2⟩ : ∃ v, Hid (Value.slice none 0 0 = v) := ⟨_, rfl⟩
   have hW2 : WriterAt ((w1.alloc (Obj.cells #[.slice none 0 0, .nilIface] 194)).alloc (Obj.cells #[.int .i64 kind, .int .i64 txn, .int .i64 0] 3)) w1.heap.size w1.heap.size (.slice none 0 0) b0 none := by rw [← hb0.out]; exact ⟨(Blk.new _ _ _).alloc _, Own8.nil _ _⟩
   have hB2 := (hB1.alloc (Obj.cells #[.slice none 0 0, .nilIface] 194)).alloc (Obj.cells #[.int .i64 kind, .int .i64 txn, .int .i64 0] 3)
   have hS3 : Blk ((w1.alloc (Obj.cells #[.slice none 0 0, .nilIface] 194)).alloc (Obj.cells #[.int .i64 kind, .int .i64 txn, .int .i64 0] 3)) (w1.heap.size + 1) 3 (intsA [kind, txn, 0]) := Blk.new_ _ _ _ (by simp)
   have hf2 := (hf1.alloc (Obj.cells #[.slice none 0 0, .nilIface] 194)).alloc (Obj.cells #[.int .i64 kind, .int .i64 txn, .int .i64 0] 3)
   have hz2 : w1.heap.size ≤ ((w1.alloc (Obj.cells #[.slice none 0 0, .nilIface] 194)).alloc (Obj.cells #[.int .i64 kind, .int .i64 txn, .int .i64 0] 3)).heap.size := by simp; omega
   have hq0 := (hB1.alloc (Obj.cells #[.slice none 0 0, .nilIface] 194)).cell 0
   have hq1 := (hB1.alloc (Obj.cells #[.slice none 0 0, .nilIface] 194)).cell 1
   clear hB0 hf0 HR hf01 hB1 hf1 hnil
   go_wp2_with fail
   rw [hg.out] at hW2 hS3 hz2 ⊢
   clear hq0 hq1 hcy
   generalize (w1.alloc (Obj.cells #[.slice none 0 0, .nilIface] 194)).alloc (Obj.cells #[.int .i64 kind, .int .i64 txn, .int .i64 0] 3) = w2 at *
   go_loopw [29] (fun ix wr => ∃ (q : Nat) (v : Value), q ≤ 3 ∧ ix = .int .i64 q ∧ WriterAt wr g g v (b0 ++ ([kind, txn, 0].take q).flatMap num8) none ∧ Blk wr w.heap.size 23 #[.int .i64 kind, .int .i64 txn, .bool false, .string ff, .string tt, .int .i64 epoch, .int .i64 shard, .int .i64 target, .int .i64 root] ∧ Blk wr (g + 1) 3 (intsA [kind, txn, 0]) ∧ Fr (fun _ => False) w wr) (fun ix _ => 3 - (intOf ix).toNat)
   case atStart => exact ⟨0, _, by omega, rfl, by rw [List.take_zero, List.flatMap_nil, List.append_nil]; exact hW2, hB2, hS3, hf2⟩
   case round =>
    clear hW2 hB2 hS3 hf2 hz2
    obtain ⟨q, v3, hq, rfl, hW3, hB3, hS3, hf3⟩ := hrel
    have hz3 : g ≤ wr.heap.size := Nat.le_of_lt hW3.blk.lt
    by_cases hlt : q < 3
    ·obtain ⟨x, hx⟩ : ∃ x, [kind, txn, 0][q]? = some x := ⟨[kind, txn, 0][q]'(by simpa using hlt), List.getElem?_eq_getElem _⟩
     have hcx := hS3.cell q
     rw [intsA_at hx] at hcx
     have HX := Lib.hid hx
     have hlf : (b0 ++ ([kind, txn, 0].take q).flatMap num8).length ≤ 10000 := by
      have h1 := flat_num8 ([kind, txn, 0].take q)
      rw [List.length_append, h1, List.length_take]
      omega
     clear hx
     go_wp2_with (go_at_call 98; refine (writer_Num hW3 hz3 (by omega) x).mono ?_; rintro e wn ⟨vn, rfl, hWn, hqn, _⟩)
     have hBn := wrote_blk hB3 hW3.blk hW3.own hqn (by decide) (by decide)
     have hSn := wrote_blk hS3 hW3.blk hW3.own hqn (by decide) (by decide)
     have hfn := wrote_fr hf3 hW3.own hsg hsg hqn
     go_roundw
     case rel => exact ⟨q + 1, vn, by omega, by go_num, by rw [flat_take num8 HX.out, ← List.append_assoc]; exact hWn, hBn, hSn, hfn⟩
     case measure => simp [intOf]; omega
    ·obtain rfl : q = 3 := by omega
     obtain ⟨b1, hb1⟩ : ∃ b, Hid (b0 ++ ([kind, txn, 0].take 3).flatMap num8 = b) := ⟨_, rfl⟩
     rw [hb1.out] at hW3
     have hl1 : b1.length = b0.length + 24 := by rw [← hb1.out, List.length_append, flat_num8]; rfl
     clear hlt hS3
     generalize wr = w3 at *
     have hc3_3 := hB3.cell 3
     have hcs3 := run_str w3 ff
     have hws3 := hW3.fr (strW_fr w3 ff) id (fun _ _ => id)
     have hbs3 := hB3.fr (strW_fr w3 ff) id
     have hfs3 := hf3.then_ (strW_fr w3 ff)
     have hzs3 : g ≤ (strW w3 ff).heap.size := Nat.le_trans hz3 (strW_fr w3 ff).size
     have HT3 := writer_Text (cap := grownCap w3 ff.size 0 5) hws3 hzs3 (strW_row w3 ff) (fun k e1 e2 => own8_new hW3.own (e1 ▸ e2)) (by rw [bytesOf_length]; have := h16.out; omega)
     rw [bytesOf_length, if_pos (by have := h16.out; omega)] at HT3
     have HT3 := Lib.hid HT3
     go_wp2_with fail
     clear hcs3
     refine HT3.out.mono ?_
     rintro e w4 ⟨v4, rfl, hW4, hq4, _⟩
     have hW4 : WriterAt w4 g g v4 (b1 ++ textB (bytesOf ff)) none := hW4
     obtain ⟨b2, hb2⟩ : ∃ b, Hid (b1 ++ textB (bytesOf ff) = b) := ⟨_, rfl⟩
     rw [hb2.out] at hW4
     have hl2 : b2.length = b1.length + (4 + ff.size) := by rw [← hb2.out, List.length_append]; simp [textB, count4_length, bytesOf_length]
     have hB4 := wrote_blk hbs3 hws3.blk hws3.own hq4 (by decide) (by decide)
     have hf4 := wrote_fr hfs3 hws3.own hsg hsg hq4
     have hz4 : g ≤ w4.heap.size := Nat.le_of_lt hW4.blk.lt
     clear hq4 hW3 hB3 hf3 hws3 hbs3 hfs3 HT3 hzs3
     have hc4_4 := hB4.cell 4
     have hcs4 := run_str w4 tt
     have hws4 := hW4.fr (strW_fr w4 tt) id (fun _ _ => id)
     have hbs4 := hB4.fr (strW_fr w4 tt) id
     have hfs4 := hf4.then_ (strW_fr w4 tt)
     have hzs4 : g ≤ (strW w4 tt).heap.size := Nat.le_trans hz4 (strW_fr w4 tt).size
     have HT4 := writer_Text (cap := grownCap w4 tt.size 0 5) hws4 hzs4 (strW_row w4 tt) (fun k e1 e2 => own8_new hW4.own (e1 ▸ e2)) (by rw [bytesOf_length]; have := h16.out; omega)
     rw [bytesOf_length, if_pos (by have := h16.out; omega)] at HT4
     have HT4 := Lib.hid HT4
     go_wp2_with fail
     clear hcs4
     refine HT4.out.mono ?_
     rintro e w5 ⟨v5, rfl, hW5, hq5, _⟩
     have hW5 : WriterAt w5 g g v5 (b2 ++ textB (bytesOf tt)) none := hW5
     obtain ⟨b3, hb3⟩ : ∃ b, Hid (b2 ++ textB (bytesOf tt) = b) := ⟨_, rfl⟩
     rw [hb3.out] at hW5
     have hl3 : b3.length = b2.length + (4 + tt.size) := by rw [← hb3.out, List.length_append]; simp [textB, count4_length, bytesOf_length]
     have hB5 := wrote_blk hbs4 hws4.blk hws4.own hq5 (by decide) (by decide)
     have hf5 := wrote_fr hfs4 hws4.own hsg hsg hq5
     have hz5 : g ≤ w5.heap.size := Nat.le_of_lt hW5.blk.lt
     clear hq5 hW4 hB4 hf4 hws4 hbs4 hfs4 HT4 hzs4
     have hc5_5 := hB5.cell 5
     go_wp2_with fail
     refine (writer_Num hW5 hz5 (by omega) (epoch)).mono ?_
     rintro e w6 ⟨v6, rfl, hW6, hq6, _⟩
     have hW6 : WriterAt w6 g g v6 (b3 ++ num8 (epoch)) none := hW6
     obtain ⟨b4, hb4⟩ : ∃ b, Hid (b3 ++ num8 (epoch) = b) := ⟨_, rfl⟩
     rw [hb4.out] at hW6
     have hl4 : b4.length = b3.length + 8 := by rw [← hb4.out, List.length_append]; simp [num8_length]
     have hB6 := wrote_blk hB5 hW5.blk hW5.own hq6 (by decide) (by decide)
     have hf6 := wrote_fr hf5 hW5.own hsg hsg hq6
     have hz6 : g ≤ w6.heap.size := Nat.le_of_lt hW6.blk.lt
     clear hq6 hW5 hB5 hf5
     have hc6_6 := hB6.cell 6
     have hc6_7 := hB6.cell 7
     have hc6_8 := hB6.cell 8
     have hW7 := hW6.fr ((Fr.refl (fun _ => False) w6).alloc (Obj.cells #[.int .i64 shard, .int .i64 target, .int .i64 root] 3)) id (fun _ _ => id)
     have hB7 := hB6.alloc (Obj.cells #[.int .i64 shard, .int .i64 target, .int .i64 root] 3)
     have hS8 : Blk (w6.alloc (Obj.cells #[.int .i64 shard, .int .i64 target, .int .i64 root] 3)) w6.heap.size 3 (intsA [shard, target, root]) := Blk.new _ _ _
     have hf7 := hf6.alloc (Obj.cells #[.int .i64 shard, .int .i64 target, .int .i64 root] 3)
     have hz7 : g ≤ (w6.alloc (Obj.cells #[.int .i64 shard, .int .i64 target, .int .i64 root] 3)).heap.size := Nat.le_trans hz6 (by simp)
     go_wp2_with fail
     clear hW6 hB6 hf6 hz6
     obtain ⟨gs, hgs⟩ : ∃ g, Hid (w6.heap.size = g) := ⟨_, rfl⟩
     rw [hgs.out] at hS8 ⊢
     generalize w6.alloc (Obj.cells #[.int .i64 shard, .int .i64 target, .int .i64 root] 3) = w7 at *
     go_loopw [59] (fun ix wr => ∃ (q : Nat) (v : Value), q ≤ 3 ∧ ix = .int .i64 q ∧ WriterAt wr g g v (b4 ++ ([shard, target, root].take q).flatMap num8) none ∧ Blk wr w.heap.size 23 #[.int .i64 kind, .int .i64 txn, .bool false, .string ff, .string tt, .int .i64 epoch, .int .i64 shard, .int .i64 target, .int .i64 root] ∧ Blk wr (gs) 3 (intsA [shard, target, root]) ∧ Fr (fun _ => False) w wr) (fun ix _ => 3 - (intOf ix).toNat)
     case atStart => exact ⟨0, _, by omega, rfl, by rw [List.take_zero, List.flatMap_nil, List.append_nil]; exact hW7, hB7, hS8, hf7⟩
     case round =>
      clear hW7 hB7 hS8 hf7 hz7
      obtain ⟨q, v8, hq, rfl, hW8, hB8, hS8, hf8⟩ := hrel
      have hz8 : g ≤ wr.heap.size := Nat.le_of_lt hW8.blk.lt
      by_cases hlt : q < 3
      ·obtain ⟨x, hx⟩ : ∃ x, [shard, target, root][q]? = some x := ⟨[shard, target, root][q]'(by simpa using hlt), List.getElem?_eq_getElem _⟩
       have hcx := hS8.cell q
       rw [intsA_at hx] at hcx
       have HX := Lib.hid hx
       have hlf : (b4 ++ ([shard, target, root].take q).flatMap num8).length ≤ 10000 := by
        have h1 := flat_num8 ([shard, target, root].take q)
        rw [List.length_append, h1, List.length_take]
        omega
       clear hx
       go_wp2_with (go_at_call 98; refine (writer_Num hW8 hz8 (by omega) x).mono ?_; rintro e wn ⟨vn, rfl, hWn, hqn, _⟩)
       have hBn := wrote_blk hB8 hW8.blk hW8.own hqn (by decide) (by decide)
       have hSn := wrote_blk hS8 hW8.blk hW8.own hqn (by decide) (by decide)
       have hfn := wrote_fr hf8 hW8.own hsg hsg hqn
       go_roundw
       case rel => exact ⟨q + 1, vn, by omega, by go_num, by rw [flat_take num8 HX.out, ← List.append_assoc]; exact hWn, hBn, hSn, hfn⟩
       case measure => simp [intOf]; omega
      ·obtain rfl : q = 3 := by omega
       obtain ⟨b5, hb5⟩ : ∃ b, Hid (b4 ++ ([shard, target, root].take 3).flatMap num8 = b) := ⟨_, rfl⟩
       rw [hb5.out] at hW8
       have hl5 : b5.length = b4.length + 24 := by rw [← hb5.out, List.length_append, flat_num8]; rfl
       clear hlt hS8
       generalize wr = w8 at *
       go_wp2_with fail
       refine (writer_Bytes hW8 (by omega)).mono ?_
       rintro e wz ⟨vz, rfl, hvz, hfz⟩
       have hvz : Own8 wz w8.heap.size vz b5 := hvz
       have hnil2 : errW none = .nilIface := rfl
       rw [hnil2]
       clear hnil2
       have hBz := hB8.fr hfz id
       have hcz := hBz.cell 0
       go_wp2_with (go_at_call 70; refine (fault_Wrap_nil _ _ _).mono ?_; rintro e w' ⟨rfl, rfl⟩)
       refine bodyPost_ret (v := .tuple #[vz, .nilIface]) (by simp [results, Tryz.results77, go_sem]) rfl ?_
       have he : sayB ⟨kind, txn, false, ff, tt, epoch, shard, target, root⟩ = b5 := by
        have e1 : num8 kind ++ num8 txn ++ num8 0 = b1 := by rw [← hb1.out, ← hb0.out]; simp
        have e5 : b4 ++ num8 shard ++ num8 target ++ num8 root = b5 := by rw [← hb5.out]; simp
        unfold sayB yesI
        dsimp only
        simp only [if_false, Bool.false_eq_true, e1, hb2.out, hb3.out, hb4.out, e5]
       rw [he]
       exact ⟨vz, rfl, own_base hvz (hf8.size), hf8.then_ hfz⟩
 ·have hso : saidO ⟨kind, txn, yes, ff, tt, epoch, shard, target, root⟩ = some ([((⟨#[115, 97, 121]⟩ : ByteArray), kind)], 111) := if_neg hok
  unfold PutS
  rw [if_neg hok, hso]
  rw [hso] at HR
  obtain ⟨t, u, hu⟩ := errO_some ([((⟨#[115, 97, 121]⟩ : ByteArray), kind)], 111)
  rw [hu] at HR ⊢
  have HR := Lib.hid HR
  clear hok hso hu
  go_enter Tryz.func77, Tryz.ntmps77
  go_wp2_with (go_at_call 97; refine (HR.out _).mono ?_; rintro e w1 ⟨rfl, hf01⟩)
  refine bodyPost_ret (v := .tuple #[.slice none 0 0, .iface t u]) (by simp [results, Tryz.results77, go_sem]) rfl ?_
  exact ⟨_, rfl, Own8.nil _ _, ((Fr.refl (fun _ => False) w).alloc _).then_ hf01⟩
def readB (x : ByteArray × Int) : List Int := textB (bytesOf x.1) ++ num8 x.2
def writeB (x : ByteArray × ByteArray) : List Int := textB (bytesOf x.1) ++ textB (bytesOf x.2)
def txnB (c n : Int) (R : List (ByteArray × Int)) (W : List (ByteArray × ByteArray)) : List Int :=
 num8 c ++ num8 n ++ num8 R.length ++ R.flatMap readB ++ num8 W.length ++ W.flatMap writeB
theorem fl_le {α : Type} {f : α → List Int} {k : Nat} : ∀ (l : List α), (∀ x ∈ l, (f x).length ≤ k) → (l.flatMap f).length ≤ k * l.length
 | [], _ => by simp
 | x :: l, h => by
  have h1 := fl_le l (fun y hy => h y (.tail _ hy))
  have h2 := h x (.head _)
  rw [List.flatMap_cons, List.length_append, List.length_cons, Nat.mul_add]
  omega
theorem flat_take_le {α : Type} {f : α → List Int} {k m : Nat} {l : List α} (h : ∀ x ∈ l, (f x).length ≤ k) (hl : l.length ≤ m) (q : Nat) : ((l.take q).flatMap f).length ≤ k * m := by
 have h1 := fl_le (f := f) (l.take q) (fun x hx => h x (List.mem_of_mem_take hx))
 have h2 : (l.take q).length ≤ m := by rw [List.length_take]; omega
 exact Nat.le_trans h1 (Nat.mul_le_mul (Nat.le_refl _) h2)
theorem textB_len (s : ByteArray) : (textB (bytesOf s)).length = 4 + s.size := by simp [textB, count4_length, bytesOf_length]
theorem readB_le {R : List (ByteArray × Int)} (h : ∀ x ∈ R, x.1.size ≤ 16) : ∀ x ∈ R, (readB x).length ≤ 28 := fun x hx => by
 have := h x hx
 rw [readB, List.length_append, textB_len, num8_length]
 omega
theorem writeB_le {W : List (ByteArray × ByteArray)} (h : ∀ x ∈ W, x.1.size ≤ 16 ∧ x.2.size ≤ 64) : ∀ x ∈ W, (writeB x).length ≤ 88 := fun x hx => by
 have := h x hx
 rw [writeB, List.length_append, textB_len, textB_len]
 omega
def PutT (w : World) (c n : Int) (R : List (ByteArray × Int)) (W : List (ByteArray × ByteArray)) (r : Value) (e : Ending) (w' : World) : Prop :=
 ∃ v, e = .returned (.tuple #[v, r]) ∧ Own8 w' w.heap.size v (txnB c n R W) ∧ Fr (fun _ => False) w w'
theorem txn_Put_ok {w : World} {F : Nat → Prop} {A B : Option Addr} {cr cw : Nat} {c n : Int} {R : List (ByteArray × Int)} {W : List (ByteArray × ByteArray)} (hr : ReadRow w F A R) (hw : WriteRow w F B W) (h : TOk c n R W) :
  Calls Tryz.prog 149 #[.agg #[.int .i64 c, .int .i64 n, .slice A R.length cr, .slice B W.length cw]] w (PutT w c n R W .nilIface) := by
 have hlR : R.length ≤ 8 := rises_len h.2.2.2.2.2.1
 have hlW : W.length ≤ 8 := rises_len h.2.2.2.2.2.2
 have HKR := Lib.hid (read_sizes h.2.2.2.2.2.1)
 have HKW := Lib.hid (write_sizes h.2.2.2.2.2.2)
 have HBR := Lib.hid (readB_le HKR.out)
 have HBW := Lib.hid (writeB_le HKW.out)
 have HRr := Lib.hid hr
 have HWr := Lib.hid hw
 have hB0 := Blk.new w 29 #[.int .i64 c, .int .i64 n, .slice A R.length cr, .slice B W.length cw]
 have hf0 : Fr (fun _ => False) w (w.alloc (Obj.cells #[.int .i64 c, .int .i64 n, .slice A R.length cr, .slice B W.length cw] 29)) := (Fr.refl _ _).alloc _
 have HC := Lib.hid (txn_Check_ok (cr := cr) (cw := cw) (hr.fr hf0 (fun _ _ => id)) (hw.fr hf0 (fun _ _ => id)) h)
 clear hr hw h
 go_enter Tryz.func149, Tryz.ntmps149
 go_wp2_with fail
 refine HC.out.mono ?_
 rintro e w1 ⟨rfl, hf01⟩
 have hB1 := hB0.fr hf01 id
 have hf1 := hf0.then_ hf01
 obtain ⟨gB, hgB⟩ : ∃ g, Hid (w.heap.size = g) := ⟨_, rfl⟩
 rw [hgB.out] at hB1
 obtain ⟨g, hg⟩ : ∃ g, Hid (w1.heap.size = g) := ⟨_, rfl⟩
 have hsg : w.heap.size ≤ g := by rw [← hg.out]; exact hf1.size
 obtain ⟨b0, hb0⟩ : ∃ b : List Int, Hid (([] : List Int) = b) := ⟨_, rfl⟩
 have hl0 : b0.length = 0 := by rw [← hb0.out]; rfl
 have hW2 : WriterAt (w1.alloc (Obj.cells #[.slice none 0 0, .nilIface] 194)) w1.heap.size w1.heap.size (.slice none 0 0) [] none := ⟨Blk.new _ _ _, Own8.nil _ _⟩
 have hf2 : Fr (fun _ => False) w (w1.alloc (Obj.cells #[.slice none 0 0, .nilIface] 194)) := hf1.alloc _
 have hB2 := hB1.alloc (Obj.cells #[.slice none 0 0, .nilIface] 194)
 have hz2 : w1.heap.size ≤ (w1.alloc (Obj.cells #[.slice none 0 0, .nilIface] 194)).heap.size := by simp
 have hc2 := hB2.cell 0
 rw [← hgB.out] at hc2
 clear hB0 hf0 HC hf01 hB1 hf1
 rw [hb0.out] at hW2
 go_wp2_with fail
 rw [hg.out] at hW2 hz2 ⊢
 rw [hgB.out] at hc2 ⊢
 generalize w1.alloc (Obj.cells #[.slice none 0 0, .nilIface] 194) = w2 at *
 refine (writer_Num hW2 hz2 (by omega) (c)).mono ?_
 rintro e w3 ⟨v3, rfl, hW3, hq3, _⟩
 have hW3 : WriterAt w3 g g v3 (b0 ++ num8 (c)) none := hW3
 obtain ⟨b1, hb1⟩ : ∃ b, Hid (b0 ++ num8 (c) = b) := ⟨_, rfl⟩
 rw [hb1.out] at hW3
 have hl1 : b1.length = b0.length + 8 := by rw [← hb1.out, List.length_append, num8_length]
 have hB3 := wrote_blk hB2 hW2.blk hW2.own hq3 (by decide) (by decide)
 have hf3 := wrote_fr hf2 hW2.own hsg hsg hq3
 have hz3 : g ≤ w3.heap.size := Nat.le_of_lt hW3.blk.lt
 clear hq3 hW2 hB2 hf2 hz2
 have hc3_1 := hB3.cell 1
 go_wp2_with fail
 refine (writer_Num hW3 hz3 (by omega) (n)).mono ?_
 rintro e w4 ⟨v4, rfl, hW4, hq4, _⟩
 have hW4 : WriterAt w4 g g v4 (b1 ++ num8 (n)) none := hW4
 obtain ⟨b2, hb2⟩ : ∃ b, Hid (b1 ++ num8 (n) = b) := ⟨_, rfl⟩
 rw [hb2.out] at hW4
 have hl2 : b2.length = b1.length + 8 := by rw [← hb2.out, List.length_append, num8_length]
 have hB4 := wrote_blk hB3 hW3.blk hW3.own hq4 (by decide) (by decide)
 have hf4 := wrote_fr hf3 hW3.own hsg hsg hq4
 have hz4 : g ≤ w4.heap.size := Nat.le_of_lt hW4.blk.lt
 clear hq4 hW3 hB3 hf3 hz3
 have hc4_2 := hB4.cell 2
 go_wp2_with fail
 refine (writer_Num hW4 hz4 (by omega) ((R.length : Int))).mono ?_
 rintro e w5 ⟨v5, rfl, hW5, hq5, _⟩
 have hW5 : WriterAt w5 g g v5 (b2 ++ num8 ((R.length : Int))) none := hW5
 obtain ⟨b3, hb3⟩ : ∃ b, Hid (b2 ++ num8 ((R.length : Int)) = b) := ⟨_, rfl⟩
 rw [hb3.out] at hW5
 have hl3 : b3.length = b2.length + 8 := by rw [← hb3.out, List.length_append, num8_length]
 have hB5 := wrote_blk hB4 hW4.blk hW4.own hq5 (by decide) (by decide)
 have hf5 := wrote_fr hf4 hW4.own hsg hsg hq5
 have hz5 : g ≤ w5.heap.size := Nat.le_of_lt hW5.blk.lt
 clear hq5 hW4 hB4 hf4 hz4
 have hc5_2 := hB5.cell 2
 go_wp2_with fail
 go_loopw [35] (fun ix wr => ∃ (q : Nat) (v : Value), q ≤ R.length ∧ ix = .int .i64 q ∧ WriterAt wr g g v (b3 ++ (R.take q).flatMap readB) none ∧ Blk wr gB 29 #[.int .i64 c, .int .i64 n, .slice A R.length cr, .slice B W.length cw] ∧ Fr (fun _ => False) w wr) (fun ix _ => R.length - (intOf ix).toNat)
 case atStart => exact ⟨0, _, by omega, rfl, by rw [List.take_zero, List.flatMap_nil, List.append_nil]; exact hW5, hB5, hf5⟩
 case round =>
  clear hW5 hB5 hf5 hz5
  obtain ⟨q, v5, hq, rfl, hW5, hB5, hf5⟩ := hrel
  have hz5 : g ≤ wr.heap.size := Nat.le_of_lt hW5.blk.lt
  have hlf := flat_take_le HBR.out hlR q
  have hlf : (b3 ++ (R.take q).flatMap readB).length ≤ 6000 := by rw [List.length_append]; omega
  by_cases hlt : q < R.length
  ·obtain ⟨x, hx⟩ : ∃ x, R[q]? = some x := ⟨R[q], List.getElem?_eq_getElem hlt⟩
   obtain ⟨b, o, rfl, _, e0, e1⟩ := HRr.out q x hx
   have d0 := hf5.cell_some e0 id
   have d1 := hf5.cell_some e1 id
   have HX := Lib.hid hx
   have hx16 := HKR.out x (List.mem_of_getElem? hx)
   have E0 := Lib.hid e0
   have E1 := Lib.hid e1
   clear hx e0 e1
   obtain ⟨bq, hbq⟩ : ∃ b, Hid (b3 ++ (R.take q).flatMap readB = b) := ⟨_, rfl⟩
   rw [hbq.out] at hW5 hlf
   have hW6 := hW5.fr ((Fr.refl (fun _ => False) wr).alloc (Obj.cells #[.string x.1, .int .i64 x.2] 143)) id (fun _ _ => id)
   have hB6 := hB5.alloc (Obj.cells #[.string x.1, .int .i64 x.2] 143)
   have hX6 := Blk.new wr 143 #[.string x.1, .int .i64 x.2]
   have hf6 := hf5.alloc (Obj.cells #[.string x.1, .int .i64 x.2] 143)
   have hz6 : g ≤ (wr.alloc (Obj.cells #[.string x.1, .int .i64 x.2] 143)).heap.size := Nat.le_trans hz5 (by simp)
   clear hW5 hB5 hf5 hz5
   have hsza : (wr.alloc (Obj.cells #[.string x.1, .int .i64 x.2] 143)).heap.size = wr.heap.size + 1 := by simp
   have hcs6 := run_str (wr.alloc (Obj.cells #[.string x.1, .int .i64 x.2] 143)) x.1
   have hws6 := hW6.fr (strW_fr (wr.alloc (Obj.cells #[.string x.1, .int .i64 x.2] 143)) x.1) id (fun _ _ => id)
   have hbs6 := hB6.fr (strW_fr (wr.alloc (Obj.cells #[.string x.1, .int .i64 x.2] 143)) x.1) id
   have hxs6 := hX6.fr (strW_fr (wr.alloc (Obj.cells #[.string x.1, .int .i64 x.2] 143)) x.1) id
   have hfs6 := hf6.then_ (strW_fr (wr.alloc (Obj.cells #[.string x.1, .int .i64 x.2] 143)) x.1)
   have hzs6 : g ≤ (strW (wr.alloc (Obj.cells #[.string x.1, .int .i64 x.2] 143)) x.1).heap.size := Nat.le_trans hz6 (strW_fr (wr.alloc (Obj.cells #[.string x.1, .int .i64 x.2] 143)) x.1).size
   have HT6 := writer_Text (cap := grownCap (wr.alloc (Obj.cells #[.string x.1, .int .i64 x.2] 143)) x.1.size 0 5) hws6 hzs6 (strW_row (wr.alloc (Obj.cells #[.string x.1, .int .i64 x.2] 143)) x.1) (fun k e1 e2 => own8_new hW6.own (e1 ▸ e2)) (by rw [bytesOf_length]; omega)
   rw [bytesOf_length, if_pos (by omega), hsza] at HT6
   have HT6 := Lib.hid HT6
   go_wp2_with fail
   clear hcs6
   refine HT6.out.mono ?_
   rintro e w7 ⟨v7, rfl, hW7, hq7, _⟩
   have hW7 : WriterAt w7 g g v7 (bq ++ textB (bytesOf x.1)) none := hW7
   have hB7 := wrote_blk hbs6 hws6.blk hws6.own hq7 (by decide) (by decide)
   have hX7 := wrote_blk hxs6 hws6.blk hws6.own hq7 (by decide) (by decide)
   have hf7 := wrote_fr hfs6 hws6.own hsg hsg hq7
   have hz7 : g ≤ w7.heap.size := Nat.le_of_lt hW7.blk.lt
   clear hq7 hW6 hB6 hf6 hws6 hbs6 hfs6 HT6 hzs6 hz6 hxs6 hX6
   have hx1 := hX7.cell 1
   have hlb : (bq ++ textB (bytesOf x.1)).length ≤ 7000 := by rw [List.length_append, textB_len]; omega
   go_wp2_with (go_at_call 98; refine (writer_Num hW7 hz7 (by omega) x.2).mono ?_; rintro e wn ⟨vn, rfl, hWn, hqn, _⟩)
   have hWn : WriterAt wn g g vn ((bq ++ textB (bytesOf x.1)) ++ num8 x.2) none := hWn
   have hBn := wrote_blk hB7 hW7.blk hW7.own hqn (by decide) (by decide)
   have hfn := wrote_fr hf7 hW7.own hsg hsg hqn
   go_roundw
   case rel => exact ⟨q + 1, _, by omega, by go_num, by rw [flat_take readB HX.out, readB, ← List.append_assoc, ← List.append_assoc, hbq.out]; exact hWn, hBn, hfn⟩
   case measure => simp [intOf]; omega
  ·obtain rfl : q = R.length := by omega
   rw [List.take_length] at hW5 hlf
   obtain ⟨b4, hb4⟩ : ∃ b, Hid (b3 ++ R.flatMap readB = b) := ⟨_, rfl⟩
   rw [hb4.out] at hW5 hlf
   generalize wr = w5 at *
   clear hlt
   have hc5_3 := hB5.cell 3
   have hl4 : b4.length ≤ 300 := by rw [← hb4.out, List.length_append]; have := fl_le R HBR.out; have := Nat.mul_le_mul (Nat.le_refl 28) hlR; omega
   clear hlf
   go_wp2_with fail
   refine (writer_Num hW5 hz5 (by omega) ((W.length : Int))).mono ?_
   rintro e w6 ⟨v6, rfl, hW6, hq6, _⟩
   have hW6 : WriterAt w6 g g v6 (b4 ++ num8 ((W.length : Int))) none := hW6
   obtain ⟨b5, hb5⟩ : ∃ b, Hid (b4 ++ num8 ((W.length : Int)) = b) := ⟨_, rfl⟩
   rw [hb5.out] at hW6
   have hl5 : b5.length = b4.length + 8 := by rw [← hb5.out, List.length_append, num8_length]
   have hB6 := wrote_blk hB5 hW5.blk hW5.own hq6 (by decide) (by decide)
   have hf6 := wrote_fr hf5 hW5.own hsg hsg hq6
   have hz6 : g ≤ w6.heap.size := Nat.le_of_lt hW6.blk.lt
   clear hq6 hW5 hB5 hf5 hz5
   have hc6_3 := hB6.cell 3
   have hl5 : b5.length ≤ 308 := by omega
   go_wp2_with fail
   go_loopw [57] (fun ix wr => ∃ (q : Nat) (v : Value), q ≤ W.length ∧ ix = .int .i64 q ∧ WriterAt wr g g v (b5 ++ (W.take q).flatMap writeB) none ∧ Blk wr gB 29 #[.int .i64 c, .int .i64 n, .slice A R.length cr, .slice B W.length cw] ∧ Fr (fun _ => False) w wr) (fun ix _ => W.length - (intOf ix).toNat)
   case atStart => exact ⟨0, _, by omega, rfl, by rw [List.take_zero, List.flatMap_nil, List.append_nil]; exact hW6, hB6, hf6⟩
   case round =>
    clear hW6 hB6 hf6 hz6
    obtain ⟨q, v6, hq, rfl, hW6, hB6, hf6⟩ := hrel
    have hz6 : g ≤ wr.heap.size := Nat.le_of_lt hW6.blk.lt
    have hlf := flat_take_le HBW.out hlW q
    have hlf : (b5 ++ (W.take q).flatMap writeB).length ≤ 6000 := by rw [List.length_append]; omega
    by_cases hlt : q < W.length
    ·obtain ⟨x, hx⟩ : ∃ x, W[q]? = some x := ⟨W[q], List.getElem?_eq_getElem hlt⟩
     obtain ⟨b, o, rfl, _, e0, e1⟩ := HWr.out q x hx
     have d0 := hf6.cell_some e0 id
     have d1 := hf6.cell_some e1 id
     have HX := Lib.hid hx
     have hx16 := HKW.out x (List.mem_of_getElem? hx)
     have hx64 := hx16.2
     have hx16 := hx16.1
     have E0 := Lib.hid e0
     have E1 := Lib.hid e1
     clear hx e0 e1
     obtain ⟨bq, hbq⟩ : ∃ b, Hid (b5 ++ (W.take q).flatMap writeB = b) := ⟨_, rfl⟩
     rw [hbq.out] at hW6 hlf
     have hW7 := hW6.fr ((Fr.refl (fun _ => False) wr).alloc (Obj.cells #[.string x.1, .string x.2] 84)) id (fun _ _ => id)
     have hB7 := hB6.alloc (Obj.cells #[.string x.1, .string x.2] 84)
     have hX7 := Blk.new wr 84 #[.string x.1, .string x.2]
     have hf7 := hf6.alloc (Obj.cells #[.string x.1, .string x.2] 84)
     have hz7 : g ≤ (wr.alloc (Obj.cells #[.string x.1, .string x.2] 84)).heap.size := Nat.le_trans hz6 (by simp)
     clear hW6 hB6 hf6 hz6
     have hsza : (wr.alloc (Obj.cells #[.string x.1, .string x.2] 84)).heap.size = wr.heap.size + 1 := by simp
     have hcs7 := run_str (wr.alloc (Obj.cells #[.string x.1, .string x.2] 84)) x.1
     have hws7 := hW7.fr (strW_fr (wr.alloc (Obj.cells #[.string x.1, .string x.2] 84)) x.1) id (fun _ _ => id)
     have hbs7 := hB7.fr (strW_fr (wr.alloc (Obj.cells #[.string x.1, .string x.2] 84)) x.1) id
     have hxs7 := hX7.fr (strW_fr (wr.alloc (Obj.cells #[.string x.1, .string x.2] 84)) x.1) id
     have hfs7 := hf7.then_ (strW_fr (wr.alloc (Obj.cells #[.string x.1, .string x.2] 84)) x.1)
     have hzs7 : g ≤ (strW (wr.alloc (Obj.cells #[.string x.1, .string x.2] 84)) x.1).heap.size := Nat.le_trans hz7 (strW_fr (wr.alloc (Obj.cells #[.string x.1, .string x.2] 84)) x.1).size
     have HT7 := writer_Text (cap := grownCap (wr.alloc (Obj.cells #[.string x.1, .string x.2] 84)) x.1.size 0 5) hws7 hzs7 (strW_row (wr.alloc (Obj.cells #[.string x.1, .string x.2] 84)) x.1) (fun k e1 e2 => own8_new hW7.own (e1 ▸ e2)) (by rw [bytesOf_length]; omega)
     rw [bytesOf_length, if_pos (by omega), hsza] at HT7
     have HT7 := Lib.hid HT7
     go_wp2_with fail
     clear hcs7
     refine HT7.out.mono ?_
     rintro e w8 ⟨v8, rfl, hW8, hq8, _⟩
     have hW8 : WriterAt w8 g g v8 (bq ++ textB (bytesOf x.1)) none := hW8
     have hB8 := wrote_blk hbs7 hws7.blk hws7.own hq8 (by decide) (by decide)
     have hX8 := wrote_blk hxs7 hws7.blk hws7.own hq8 (by decide) (by decide)
     have hf8 := wrote_fr hfs7 hws7.own hsg hsg hq8
     have hz8 : g ≤ w8.heap.size := Nat.le_of_lt hW8.blk.lt
     clear hq8 hW7 hB7 hf7 hws7 hbs7 hfs7 HT7 hzs7 hz7 hxs7 hX7
     have hx1 := hX8.cell 1
     have hlb : (bq ++ textB (bytesOf x.1)).length ≤ 7000 := by rw [List.length_append, textB_len]; omega
     obtain ⟨bt, hbt⟩ : ∃ b, Hid ((bq ++ textB (bytesOf x.1)) = b) := ⟨_, rfl⟩
     rw [hbt.out] at hW8 hlb
     have hcs8 := run_str w8 x.2
     have hws8 := hW8.fr (strW_fr w8 x.2) id (fun _ _ => id)
     have hbs8 := hB8.fr (strW_fr w8 x.2) id
     have hxs8 := hX8.fr (strW_fr w8 x.2) id
     have hfs8 := hf8.then_ (strW_fr w8 x.2)
     have hzs8 : g ≤ (strW w8 x.2).heap.size := Nat.le_trans hz8 (strW_fr w8 x.2).size
     have HT8 := writer_Text (cap := grownCap w8 x.2.size 0 5) hws8 hzs8 (strW_row w8 x.2) (fun k e1 e2 => own8_new hW8.own (e1 ▸ e2)) (by rw [bytesOf_length]; omega)
     rw [bytesOf_length, if_pos (by omega)] at HT8
     have HT8 := Lib.hid HT8
     go_wp2_with (go_at_call 99; refine HT8.out.mono ?_; rintro e w9 ⟨v9, rfl, hW9, hq9, _⟩)
     have hW9 : WriterAt w9 g g v9 (bt ++ textB (bytesOf x.2)) none := hW9
     have hB9 := wrote_blk hbs8 hws8.blk hws8.own hq9 (by decide) (by decide)
     have hX9 := wrote_blk hxs8 hws8.blk hws8.own hq9 (by decide) (by decide)
     have hf9 := wrote_fr hfs8 hws8.own hsg hsg hq9
     have hz9 : g ≤ w9.heap.size := Nat.le_of_lt hW9.blk.lt
     clear hq9 hW8 hB8 hf8 hws8 hbs8 hfs8 HT8 hzs8 hz8 hxs8 hX8
     have hWn := hW9
     have hBn := hB9
     have hfn := hf9
     go_roundw
     case rel => exact ⟨q + 1, _, by omega, by go_num, by rw [flat_take writeB HX.out, writeB, ← List.append_assoc, ← List.append_assoc, hbq.out, hbt.out]; exact hWn, hBn, hfn⟩
     case measure => simp [intOf]; omega
    ·obtain rfl : q = W.length := by omega
     rw [List.take_length] at hW6 hlf
     obtain ⟨b6, hb6⟩ : ∃ b, Hid (b5 ++ W.flatMap writeB = b) := ⟨_, rfl⟩
     rw [hb6.out] at hW6 hlf
     generalize wr = w6 at *
     clear hlt
     have he : txnB c n R W = b6 := by
      unfold txnB
      have e0 : num8 c = b1 := by rw [← hb1.out, ← hb0.out]; rfl
      rw [e0, hb2.out, hb3.out, hb4.out, hb5.out, hb6.out]
     have HE := Lib.hid he
     clear he
     go_wp2_with fail
     refine (writer_Bytes hW6 (by omega)).mono ?_
     rintro e wz ⟨vz, rfl, hvz, hfz⟩
     have hvz : Own8 wz w6.heap.size vz b6 := hvz
     have hnil2 : errW none = .nilIface := rfl
     rw [hnil2]
     clear hnil2
     go_wp2_with (go_at_call 109; refine (txn_wrap_nil _).mono ?_; rintro e w' ⟨rfl, rfl⟩)
     refine bodyPost_ret (v := .tuple #[vz, .nilIface]) (by simp [results, Tryz.results149, go_sem]) rfl ?_
     unfold PutT
     rw [HE.out]
     exact ⟨vz, rfl, own_base hvz (hf6.size), hf6.then_ hfz⟩
section
variable {P : Program} {w : World}
def B8 (xs : List Int) : Prop := ∀ x ∈ xs, 0 ≤ x ∧ x ≤ 255
def strV (x : List Int) : Value := .string (strOfNums x)
def StrMap (w : World) (m : Nat) (L : List (List Int)) : Prop :=
 (∃ es cl, w.heap[m]? = some (.map es cl) ∧ es.toList.map (·.key) = L.map strV ∧ ∀ (j : Nat) e, es.toList[j]? = some e → e.val = .int .i64 j) ∧ ∀ t ∈ L, B8 t
theorem StrMap.fr {S : Nat → Prop} {w w' : World} {m : Nat} {L : List (List Int)} (h : StrMap w m L) (hf : Fr S w w') (hs : ¬ S m) : StrMap w' m L := by
 obtain ⟨⟨es, cl, h1, h2⟩, h3⟩ := h
 exact ⟨⟨es, cl, hf.at_ h1 hs, h2⟩, h3⟩
theorem idxOf_other {q s : List Int} {L : List (List Int)} (h : s ≠ q) : (q :: L).idxOf s = L.idxOf s + 1 := by
 rw [List.idxOf_cons]
 have : (q == s) = false := by simpa using fun e => h e.symm
 rw [this]
 rfl
theorem findNow_str {s : List Int} (hs : B8 s) : ∀ (es : List MapEntry) (L : List (List Int)) (i c : Nat), es.map (·.key) = L.map strV → (∀ t ∈ L, B8 t) → (∀ (j : Nat) e, es[j]? = some e → e.val = .int .i64 ((c + j : Nat) : Int)) →
  Instr.findNow .string (strV s) es i = some (if s ∈ L then some (i + L.idxOf s, .int .i64 ((c + L.idxOf s : Nat) : Int)) else none)
 | [], L, i, c, h, _, _ => by
  obtain rfl : L = [] := by simpa using h.symm
  simp [Instr.findNow]
 | x :: es, L, i, c, h, hL, hv => by
  obtain ⟨q, L', rfl, hq, hr⟩ : ∃ q L', L = q :: L' ∧ x.key = strV q ∧ es.map (·.key) = L'.map strV := by
   cases L with
   | nil => simp at h
   | cons q L' => simp only [List.map_cons, List.cons.injEq] at h; exact ⟨q, L', rfl, h.1, h.2⟩
  have ih := findNow_str hs es L' (i + 1) (c + 1) hr (fun t ht => hL t (.tail _ ht)) (fun j e he => by
   have := hv (j + 1) e (by simpa using he)
   rw [this]
   congr 2
   omega)
  have h0 := hv 0 x rfl
  by_cases hsq : s = q
  ·subst hsq
   have e1 : Instr.sameNow .string (strV s) x.key = some true := by
    rw [hq]
    exact congrArg some ((MapKept.bytes_beq _ _).2 rfl)
   rw [Instr.findNow, e1]
   simp [h0]
  ·have e1 : Instr.sameNow .string (strV s) x.key = some false := by
    rw [hq]
    refine congrArg some (Bool.eq_false_iff.2 fun hh => hsq ?_)
    exact strOf_inj hs (hL q (.head _)) ((MapKept.bytes_beq _ _).1 hh)
   rw [Instr.findNow, e1]
   have e2 := idxOf_other (L := L') hsq
   show Instr.findNow .string (strV s) es (i + 1) = _
   rw [ih, e2]
   by_cases hm : s ∈ L'
   ·rw [if_pos hm, if_pos (.tail _ hm)]
    congr 3
    ·omega
    ·congr 2; omega
   ·rw [if_neg hm, if_neg (by simp [hsq, hm])]
variable {mt k e : TypeId}
theorem run_find_str (hk : P.underlying k = some .string) {es : Array MapEntry} {L : List (List Int)} (h2 : es.toList.map (·.key) = L.map strV) (h3 : ∀ (j : Nat) e, es.toList[j]? = some e → e.val = .int .i64 j) (hL : ∀ t ∈ L, B8 t) {s : List Int} (hs : B8 s) :
  (Instr.findKey k (strV s) es.toList).run P w = .ok (if s ∈ L then some (L.idxOf s, .int .i64 (L.idxOf s : Int)) else none) w := by
 have hf := findNow_str hs es.toList L 0 0 h2 hL (fun j e he => by rw [h3 j e he]; congr 2; omega)
 simp only [Nat.zero_add] at hf
 simp [Instr.findKey, run_underlying hk, hf]
theorem run_check_str (hk : P.underlying k = some .string) (em : Bool) (s : List Int) : (Instr.checkKey em 10000 k (strV s)).run P w = .ok () w := by
 show (Instr.checkKey em (9999 + 1) k (strV s)).run P w = .ok () w
 rw [Instr.checkKey]
 simp [run_underlying hk, strV]
theorem run_lookup_in (hm : P.underlying mt = some (.map k e)) (hk : P.underlying k = some .string) {m : Nat} {L : List (List Int)} (h : StrMap w m L) {s : List Int} (hs : B8 s) (hin : s ∈ L) :
  (Instr.lookup mt (.map (some m)) (.string (strOfNums s)) true).run P w = .ok (.tuple #[.int .i64 (L.idxOf s : Int), .bool true]) w := by
 obtain ⟨⟨es, cl, h1, h2, h3⟩, hL⟩ := h
 have hr := run_find_str (w := w) hk h2 h3 hL hs
 have hc := fun em => run_check_str (w := w) hk em s
 rw [if_pos hin] at hr
 simp only [strV] at hc hr
 simp [Instr.lookup, run_underlying hm, MapKept.run_getObj_map h1, hc, hr]
theorem run_lookup_out (hm : P.underlying mt = some (.map k e)) (hk : P.underlying k = some .string) (hz : ∀ w : World, (zeroValue e).run P w = .ok (.int .i64 0) w) {m : Nat} {L : List (List Int)} (h : StrMap w m L) {s : List Int} (hs : B8 s) (hin : s ∉ L) :
  (Instr.lookup mt (.map (some m)) (.string (strOfNums s)) true).run P w = .ok (.tuple #[.int .i64 0, .bool false]) w := by
 obtain ⟨⟨es, cl, h1, h2, h3⟩, hL⟩ := h
 have hr := run_find_str (w := w) hk h2 h3 hL hs
 have hc := fun em => run_check_str (w := w) hk em s
 rw [if_neg hin] at hr
 simp only [strV] at hc hr
 simp [Instr.lookup, run_underlying hm, MapKept.run_getObj_map h1, hc, hr, hz]
theorem run_update_str (hm : P.underlying mt = some (.map k e)) (hk : P.underlying k = some .string) {m : Nat} {L : List (List Int)} (h : StrMap w m L) {s : List Int} (hs : B8 s) (hn : s ∉ L) (n : Int) (hnL : n = L.length) :
  ∃ w', (Instr.mapUpdate mt (.map (some m)) (.string (strOfNums s)) (.int .i64 n)).run P w = .ok () w' ∧ Fr (fun x => x = m) w w' ∧ StrMap w' m (L ++ [s]) := by
 subst hnL
 obtain ⟨⟨es, cl, h1, h2, h3⟩, hL⟩ := h
 have hr := run_find_str (w := w) hk h2 h3 hL hs
 have hc := fun em => run_check_str (w := w) hk em s
 rw [if_neg hn] at hr
 simp only [strV] at hc hr
 have hlen : es.toList.length = L.length := by
  have := congrArg List.length h2
  simpa using this
 refine ⟨ChangeMaps.setBlock w m (.map (es.push ⟨strV s, .int .i64 L.length, cl⟩) (cl + 1)), ?_, (Fr.refl (fun x => x = m) w).setBlock (fun _ => rfl) _, ⟨es.push ⟨strV s, .int .i64 L.length, cl⟩, cl + 1, ?_, ?_, ?_⟩, ?_⟩
 ·simp [Instr.mapUpdate, run_underlying hm, MapKept.run_getObj_map h1, hc, hr, MapKept.run_setObj_map _ h1, Result.andThen, ChangeMaps.setBlock, strV]
 ·simp only [ChangeMaps.setBlock]
  rw [Array.getElem?_setIfInBounds_self_of_lt (lt_of_heap h1)]
 ·simp [h2]
 ·intro j x hx
  rw [Array.toList_push] at hx
  by_cases hj : j < es.toList.length
  ·rw [List.getElem?_append_left hj] at hx
   exact h3 j x hx
  ·rw [List.getElem?_append_right (Nat.not_lt.1 hj)] at hx
   rcases hjj : j - es.toList.length with _ | q
   ·rw [hjj] at hx
    obtain rfl := Option.some.inj hx
    show Value.int .i64 (L.length : Int) = .int .i64 (j : Int)
    congr 1
    omega
   ·rw [hjj] at hx
    simp at hx
 ·intro t ht
  rcases List.mem_append.1 ht with ht | ht
  ·exact hL t ht
  ·rw [List.mem_singleton.1 ht]
   exact hs
end
theorem bookMap : (Tryz.prog).underlying 123 = some (.map 9 3) := Tryz.underlying123
structure BookAt (w : World) (g m base : Nat) (v : Value) (L : List (List Int)) : Prop where
 blk : Blk w g 125 #[v, .map (some m)]
 map : StrMap w m L
 own : w.ownsRow base 9 1 v L.length (L.map strV)
theorem BookAt.fr {S : Nat → Prop} {w w' : World} {g m base : Nat} {v : Value} {L : List (List Int)} (h : BookAt w g m base v L) (hf : Fr S w w') (hg : ¬ S g) (hm : ¬ S m) (hv : ∀ k, v.ownBlock = some k → ¬ S k) : BookAt w' g m base v L :=
 ⟨h.blk.fr hf hg, h.map.fr hf hm, own_fr h.own hf hv⟩
theorem BookAt.keep {w w' : World} {g m base : Nat} {v : Value} {L : List (List Int)} (h : BookAt w g m base v L) (hf : Fr (fun _ => False) w w') : BookAt w' g m base v L := h.fr hf id id (fun _ _ => id)
theorem BookAt.ne {w : World} {g m base : Nat} {v : Value} {L : List (List Int)} (h : BookAt w g m base v L) : g ≠ m := by
 obtain ⟨⟨es, cl, h1, _⟩, _⟩ := h.map
 exact h.blk.ne_map h1
theorem book_New (w : World) : Calls Tryz.prog 31 #[] w fun e w' => ∃ g m, e = .returned (.pointer (some ⟨g, 0, none⟩)) ∧ w.heap.size ≤ g ∧ w.heap.size ≤ m ∧ BookAt w' g m w.heap.size (.slice none 0 0) [] ∧ Fr (fun _ => False) w w' := by
 have hmm := @run_makeMap Tryz.prog
 go_enter Tryz.func31, Tryz.ntmps31
 go_wp2
 go_ret
 exact ⟨w.heap.size + 1, w.heap.size, rfl, by omega, by omega, ⟨Blk.new_ _ _ _ (by simp), ⟨⟨#[], 0, (Below.heap_alloc _ _ _ (by simp)).trans (heap_alloc_new _ _), rfl, by simp⟩, by simp⟩, ⟨rfl, .inl ⟨rfl, rfl⟩⟩⟩, ((Fr.refl _ _).alloc _).alloc _⟩
theorem book_Many {w : World} {g m base : Nat} {v : Value} {L : List (List Int)} (h : BookAt w g m base v L) : Calls Tryz.prog 18 #[.pointer (some ⟨g, 0, none⟩)] w fun e w' => e = .returned (.int .i64 L.length) ∧ w = w' := by
 obtain ⟨A, cap, rfl, _, _⟩ := own_form h.own
 have c0 : w.cell? ⟨g, 0, none⟩ = some (.slice A L.length cap) := h.blk.cell 0
 go_enter Tryz.func18, Tryz.ntmps18
 go_wp2
 go_ret
 exact ⟨rfl, rfl⟩
def digI (L : List (List Int)) (xs : List Int) : Nat := if xs ∈ L then L.idxOf xs else L.length
def digL (L : List (List Int)) (xs : List Int) : List (List Int) := if xs ∈ L then L else L ++ [xs]
def DigOut (w : World) (g m base : Nat) (v : Value) (L : List (List Int)) (xs : List Int) (e : Ending) (w' : World) : Prop :=
 ∃ v', e = .returned (.tuple #[.int .i64 (digI L xs : Nat), .nilIface]) ∧ BookAt w' g m base v' (digL L xs) ∧ Fr (fun k => k = g ∨ k = m ∨ v.ownBlock = some k) w w' ∧ ∀ k, v'.ownBlock = some k → v.ownBlock = some k ∨ w.heap.size ≤ k
theorem string_info : (Tryz.prog.info? 9).map (fun i => (i.zero, i.size, i.bytes)) = some (some (.string ⟨#[]⟩), 1, 16) := by kernel_rfl
theorem own_ne_strmap {w : World} {base : Nat} {e : TypeId} {size n m : Nat} {v : Value} {xs : List Value} {L : List (List Int)} (h : w.ownsRow base e size v n xs) (hm : StrMap w m L) : v.ownBlock ≠ some m := by
 obtain ⟨⟨es, cl, h1, _⟩, _⟩ := hm
 rcases h.2 with ⟨rfl, _⟩ | ⟨g', cap, cur, rfl, _, hh, _⟩
 ·simp [Value.ownBlock]
 ·intro he
  cases he
  rw [hh] at h1
  cases h1
theorem book_Digest {w : World} {g m base : Nat} {v : Value} {L : List (List Int)} (h : BookAt w g m base v L) (hbase : base ≤ w.heap.size) {F : Nat → Prop} {A : Option Addr} {cap : Nat} {xs : List Int} (hr : ByteRow w F A xs) (h8 : B8 xs) (hx : xs.length ≤ 65536) (hL : L.length < 65536) :
  Calls Tryz.prog 41 #[.pointer (some ⟨g, 0, none⟩), .slice A xs.length cap] w (DigOut w g m base v L xs) := by
 have hm := h.blk.cell 1
 obtain ⟨A0, cap0, rfl, _, _⟩ := own_form h.own
 have c0 : w.cell? ⟨g, 0, none⟩ = some (.slice A0 L.length cap0) := h.blk.cell 0
 have c1 : w.cell? ⟨g, 1, none⟩ = some (.map (some m)) := h.blk.cell 1
 have hx' : ¬ (65536 : Int) < (xs.length : Int) := by omega
 have hcv := fun n => conv_bytes (w := w.drewN n) (n := xs.length) (cap := cap) (hr.fr ((Fr.refl (fun _ => False) w).drewN n) (fun _ _ => id)) rfl
 have hmd : ∀ n, StrMap (w.drewN n) m L := fun n => h.map.fr ((Fr.refl (fun _ => False) w).drewN n) id
 by_cases hin : xs ∈ L
 ·have hlk := fun n => run_lookup_in (w := w.drewN n) bookMap Tryz.underlying9 (hmd n) h8 hin
  have HIN := Lib.hid hin
  have e1 : digI L xs = L.idxOf xs := if_pos hin
  have e2 : digL L xs = L := if_pos hin
  unfold DigOut
  rw [e1, e2]
  clear hx hL hr hmd hin e1 e2
  go_enter Tryz.func41, Tryz.ntmps41
  go_wp2_with fail
  go_big_quiet (fail)
  go_wp2_with fail
  refine bodyPost_ret (v := .tuple #[.int .i64 (L.idxOf xs : Nat), .nilIface]) (by simp [results, Tryz.results41, go_sem]) rfl ?_
  exact ⟨_, rfl, h.keep ((Fr.refl _ _).drewN _), (Fr.refl _ _).drewN _, fun k hk => .inl hk⟩
 ·have hlk := fun n => run_lookup_out (w := w.drewN n) bookMap Tryz.underlying9 (fun w => Tryz.zeroValue3 w) (hmd n) h8 hin
  have HIN := Lib.hid hin
  have HX := Lib.hid hx
  have HL := Lib.hid hL
  have e1 : digI L xs = L.length := if_neg hin
  have e2 : digL L xs = L ++ [xs] := if_neg hin
  unfold DigOut
  rw [e1, e2]
  have hL1 : ((L.length : Int) == 65536) = false := by simp; omega
  have hL3 : (L.length : Int) < 65536 := by omega
  clear hx hL hmd hin e1 e2
  go_enter Tryz.func41, Tryz.ntmps41
  go_wp2_with fail
  go_big_quiet (fail)
  have hf1 : Fr (fun _ => False) w (w.drewN (nq + 1)) := (Fr.refl (fun _ => False) w).drewN (nq + 1)
  have hcv1 := conv_bytes (w := w.drewN (nq + 1)) (n := xs.length) (cap := cap) (hr.fr hf1 (fun _ _ => id)) rfl
  obtain ⟨w2, hu, hf2, hm2⟩ := run_update_str (w := w.drewN (nq + 1)) bookMap Tryz.underlying9 (h.map.fr hf1 id) h8 HIN.out (L.length : Int) rfl
  have hgm := h.ne
  have hvm := own_ne_strmap h.own h.map
  have hb2 := (h.blk.fr hf1 id).fr hf2 hgm
  have ho2 := own_fr (own_fr h.own hf1 (fun _ _ => id)) hf2 (fun k hk e => hvm (e ▸ hk))
  have hr2 : ByteRow w2 F A xs := by
   intro k x hx
   obtain ⟨b, o, e, hF, hc⟩ := hr k x hx
   refine ⟨b, o, e, hF, (hf1.cell_some hc id) |> fun hc => hf2.cell_some hc ?_⟩
   intro hbm
   obtain ⟨⟨es, cl, h1, _⟩, _⟩ := h.map
   have hbm : b = m := hbm
   subst hbm
   simp [World.cell?, h1] at hc
  have hf02 : Fr (fun k => k = g ∨ k = m ∨ (Value.slice A0 L.length cap0).ownBlock = some k) w w2 := (hf1.mono (fun _ _ h => h.elim)).trans hf2 (fun k _ e => .inr (.inl e))
  have hc21 : w2.cell? ⟨g, 0, none⟩ = some (.slice A0 L.length cap0) := hb2.cell 0
  have hc22 : (w2.alloc (Obj.cells #[strV xs] 9)).cell? ⟨g, 0, none⟩ = some (.slice A0 L.length cap0) := (hb2.alloc _).cell 0
  have hcv2 := conv_bytes (w := w2.drew) (n := xs.length) (cap := cap) (hr2.fr ((Fr.refl (fun _ => False) w2).drew) (fun _ _ => id)) rfl
  have ho3 := own_fr ho2 (((Fr.refl (fun _ => False) w2).alloc (Obj.cells #[strV xs] 9)).drew) (fun _ _ => id)
  have hb3 := (hb2.alloc (Obj.cells #[strV xs] 9)).drew
  have hbs : base ≤ (w2.alloc (Obj.cells #[strV xs] 9)).drew.heap.size := by have h1 := hf02.size; simp; omega
  have hone : ∀ (j : Nat) u', ([strV xs] : List Value)[j]? = some u' → (w2.alloc (Obj.cells #[strV xs] 9)).drew.cell? ((⟨w2.heap.size, 0, none⟩ : Addr).add j) = some u' := new_one w2 9 (strV xs)
  unfold strV at hc22 ho3 hb3 hone
  clear hcv hlk hr
  go_wp2_with fail
  go_region
  go_wp2_with fail
  clear hcv1 hu
  go_region_law (refine step_append_gen rfl (.tmp 48) (.tmp 51) 122 9 rfl Tryz.underlying122 string_info rfl base (.slice A0 L.length cap0) L.length (L.map strV) (by rfl) ho3 ⟨w2.heap.size, 0, none⟩ 1 1 [strV xs] (by rfl) rfl hone (fun u hu => by rw [List.mem_singleton.1 hu]; rfl) (by have := HL.out; omega) (by decide) hbs ?_; intro v4 w4 h4 hf4 hk4; obtain ⟨A4, cap4, rfl, _, _⟩ := own_form h4; have hb4 := hb3.fr hf4 (own_ne_blk ho3 hb3 (by decide)); have d0 := hb4.cell 0; have z0 := hb4.frozen 0)
  all_goals go_wp2_with fail
  all_goals refine bodyPost_ret (v := .tuple #[.int .i64 L.length, .nilIface]) (by simp [results, Tryz.results41, go_sem]) rfl ?_
  all_goals
   have hf23 : Fr (fun _ => False) w2 (w2.alloc (Obj.cells #[Value.string (strOfNums xs)] 9)).drew := ((Fr.refl (fun _ => False) w2).alloc _).drew
   have hm4 := (hm2.fr hf23 id).fr hf4 hvm
   have hf34 : Fr (fun k => k = g) w4 (w4.setCell ⟨g, 0, none⟩ (.slice A4 (L.length + 1) cap4)) := (Fr.refl (fun k => k = g) w4).setCell (p := ⟨g, 0, none⟩) (fun _ => rfl) _
   refine ⟨_, rfl, ⟨hb4.set_ 0 _, hm4.fr hf34 (fun e => hgm e.symm), ?_⟩, ?_, ?_⟩
   ·have h5 := own_fr h4 hf34 (fun k hk e => own_ne_blk h4 hb4 (by decide) (e ▸ hk))
    rw [List.length_append, List.map_append]
    exact h5
   ·exact ((hf02.then_ hf23).trans hf4 (fun k _ e => .inr (.inr e))).trans hf34 (fun k _ e => .inl e)
   ·intro k hk
    rcases hk4 with e | e
    ·exact .inl (e.symm.trans hk)
    ·rw [hk] at e
     cases e
     refine .inr ?_
     have h1 := hf02.size
     simp
     omega
def TextOut (w : World) (xs : List Int) (e : Ending) (w' : World) : Prop :=
 ∃ A cap, e = .returned (.tuple #[.slice A xs.length cap, .nilIface]) ∧ ByteRow w' (fun k => w.heap.size ≤ k) A xs ∧ Fr (fun _ => False) w w'
theorem strV_cell {w : World} {base : Nat} {A : Option Addr} {n cap : Nat} {L : List (List Int)} (h : w.ownsRow base 9 1 (.slice A n cap) n (L.map strV)) {k : Nat} {xs : List Int} (hk : L[k]? = some xs) : ∃ b, A = some ⟨b, 0, none⟩ ∧ w.cell? ⟨b, k, none⟩ = some (.string (strOfNums xs)) := by
 obtain ⟨A', cap', hv, _, hat⟩ := own_form h
 cases hv
 obtain ⟨b, hb, _, hc⟩ := hat k (strV xs) (by rw [List.getElem?_map, hk]; rfl)
 exact ⟨b, hb, hc⟩
theorem book_Text {w : World} {g m base : Nat} {v : Value} {L : List (List Int)} (h : BookAt w g m base v L) {k : Nat} {xs : List Int} (hk : L[k]? = some xs) (_hL : L.length < 65536) :
  Calls Tryz.prog 75 #[.pointer (some ⟨g, 0, none⟩), .int .i64 k] w (TextOut w xs) := by
 obtain ⟨hlt, hxs⟩ := List.getElem?_eq_some_iff.1 hk
 have h8 : B8 xs := h.map.2 xs (List.mem_of_getElem? hk)
 obtain ⟨A0, cap0, rfl, _, _⟩ := own_form h.own
 have c0 : w.cell? ⟨g, 0, none⟩ = some (.slice A0 L.length cap0) := h.blk.cell 0
 obtain ⟨b, rfl, hc⟩ := strV_cell h.own hk
 have hcs := run_str w (strOfNums xs)
 have hsz : (strOfNums xs).size = xs.length := strOfNums_size xs
 rw [hsz] at hcs
 have hrow := strW_row w (strOfNums xs)
 rw [bytesOf_strOf h8] at hrow
 have HR := Lib.hid hrow
 have HF := Lib.hid (strW_fr w (strOfNums xs))
 clear hxs hk hsz hrow h8
 go_enter Tryz.func75, Tryz.ntmps75
 go_wp2
 refine bodyPost_ret (v := .tuple #[.slice (some ⟨w.heap.size, 0, none⟩) xs.length (grownCap w xs.length 0 5), .nilIface]) (by simp [results, Tryz.results75, go_sem]) rfl ?_
 exact ⟨_, _, rfl, HR.out.mono (fun k e => by omega), HF.out⟩
def U8 (w : World) (b : Nat) : Prop := ∃ cs fr, w.heap[b]? = some (.cells cs 5 fr)
theorem U8.fr {S : Nat → Prop} {w w' : World} {b : Nat} (h : U8 w b) (hf : Fr S w w') (hS : ¬ S b) : U8 w' b := by
 obtain ⟨cs, fr, h1⟩ := h
 exact ⟨cs, fr, hf.at_ h1 hS⟩
theorem U8.ne_blk {w : World} {b g : Nat} {t : TypeId} {cs : Array Value} (h : U8 w b) (hg : Blk w g t cs) (hne : 5 ≠ t) : b ≠ g := by
 obtain ⟨c, fr, h1⟩ := h
 rintro rfl
 unfold Blk at hg
 rw [hg] at h1
 injection h1 with h1
 injection h1 with _ h2
 exact hne h2.symm
theorem U8.ne_own {w : World} {b base : Nat} {e : TypeId} {size n : Nat} {v : Value} {xs : List Value} (h : U8 w b) (ho : w.ownsRow base e size v n xs) (hne : e ≠ 5) : v.ownBlock ≠ some b := by
 obtain ⟨c, fr, h1⟩ := h
 rcases ho.2 with ⟨rfl, _⟩ | ⟨g', cap, cur, rfl, _, hh, _⟩
 ·simp [Value.ownBlock]
 ·intro he
  cases he
  rw [hh] at h1
  injection h1 with h1
  injection h1 with _ h2
  exact hne h2
structure RBookAt (w : World) (g base : Nat) (v : Value) (L : List (List Int)) : Prop where
 blk : Blk w g 57 #[v]
 row : ∃ vals, w.ownsRow base 38 1 v L.length vals ∧ ∀ (k : Nat) s, L[k]? = some s → ∃ A cap, vals[k]? = some (.slice A s.length cap) ∧ ByteRow w (U8 w) A s
theorem ByteRow.u8 {w w' : World} {S : Nat → Prop} {A : Option Addr} {s : List Int} (h : ByteRow w (U8 w) A s) (hf : Fr S w w') (hS : ∀ b, U8 w b → ¬ S b) : ByteRow w' (U8 w') A s := fun k x hx => by
 obtain ⟨b, o, e, h1, hc⟩ := h k x hx
 exact ⟨b, o, e, h1.fr hf (hS b h1), hf.cell_some hc (hS b h1)⟩
theorem RBookAt.fr {S : Nat → Prop} {w w' : World} {g base : Nat} {v : Value} {L : List (List Int)} (h : RBookAt w g base v L) (hf : Fr S w w') (hg : ¬ S g) (hv : ∀ k, v.ownBlock = some k → ¬ S k) (hS : ∀ b, U8 w b → ¬ S b) : RBookAt w' g base v L := by
 obtain ⟨vals, h1, h2⟩ := h.row
 refine ⟨h.blk.fr hf hg, vals, own_fr h1 hf hv, fun k s hs => ?_⟩
 obtain ⟨A, cap, h3, h4⟩ := h2 k s hs
 exact ⟨A, cap, h3, h4.u8 hf hS⟩
theorem RBookAt.keep {w w' : World} {g base : Nat} {v : Value} {L : List (List Int)} (h : RBookAt w g base v L) (hf : Fr (fun _ => False) w w') : RBookAt w' g base v L := h.fr hf id (fun _ _ => id) (fun _ _ => id)
theorem sealType : PairType Tryz.prog 145 157 3 155 where
 map := by kernel_rfl
 int := by kernel_rfl
 stood := by kernel_rfl
 desc := ⟨_, _, Tryz.underlying157, rfl, rfl, rfl, rfl, by decide, by decide⟩
 elem := fun _ => by kernel_rfl
structure SealsAt (w : World) (g m : Nat) (L : List (Int × Int)) : Prop where
 blk : Blk w g 147 #[.map (some m)]
 map : PairMap w m L
theorem SealsAt.fr {S : Nat → Prop} {w w' : World} {g m : Nat} {L : List (Int × Int)} (h : SealsAt w g m L) (hf : Fr S w w') (hg : ¬ S g) (hm : ¬ S m) : SealsAt w' g m L :=
 ⟨h.blk.fr hf hg, h.map.fr hf hm⟩
theorem SealsAt.ne {w : World} {g m : Nat} {L : List (Int × Int)} (h : SealsAt w g m L) : g ≠ m := by
 obtain ⟨es, cl, h1, _⟩ := h.map
 exact h.blk.ne_map h1
theorem seals_New (w : World) : Calls Tryz.prog 32 #[] w fun e w' => ∃ g m, e = .returned (.pointer (some ⟨g, 0, none⟩)) ∧ w.heap.size ≤ g ∧ w.heap.size ≤ m ∧ SealsAt w' g m [] ∧ Fr (fun _ => False) w w' := by
 have hmm := @run_makeMap Tryz.prog
 go_enter Tryz.func32, Tryz.ntmps32
 go_wp2
 go_ret
 exact ⟨w.heap.size + 1, w.heap.size, rfl, by omega, by omega, ⟨Blk.new_ _ _ _ (by simp), ⟨#[], 0, (Below.heap_alloc _ _ _ (by simp)).trans (heap_alloc_new _ _), rfl, by simp⟩⟩, ((Fr.refl _ _).alloc _).alloc _⟩
theorem seals_Signed {w : World} {g m : Nat} {L : List (Int × Int)} (h : SealsAt w g m L) (who d : Int) :
  Calls Tryz.prog 72 #[.pointer (some ⟨g, 0, none⟩), .int .i64 who, .int .i64 d] w fun e w' => e = .returned (.bool (decide ((who, d) ∈ L))) ∧ Fr (fun _ => False) w w' := by
 have hc := h.blk.cell 0
 have hl := run_lookup_pair (w := w) sealType h.map who d
 go_enter Tryz.func72, Tryz.ntmps72
 go_wp2
 go_ret
 exact ⟨rfl, (Fr.refl _ _).alloc _⟩
theorem seals_Sign {w : World} {g m : Nat} {L : List (Int × Int)} (h : SealsAt w g m L) (who d : Int) (hi : who ≤ 9223372036854775807) :
  Calls Tryz.prog 38 #[.pointer (some ⟨g, 0, none⟩), .int .i64 who, .int .i64 d] w fun e w' => e = .returned (errO (signErr who d L)) ∧ SealsAt w' g m (signL who d L) ∧ Fr (fun x => x = m) w w' := by
 by_cases hm : (who, d) ∈ L
 ·go_enter Tryz.func38, Tryz.ntmps38
  go_wp2_with (first
   | (go_at_call 68; refine (seals_Group who hi _).mono ?_; rintro e w' ⟨rfl, rfl⟩)
   | (go_at_call 69; refine (seals_Client who _).mono ?_; rintro e w' ⟨rfl, rfl⟩)
   | (go_at_call 71; refine (fault_Of _ rfl _).mono ?_; rintro e w' ⟨rfl, rfl⟩)
   | (go_at_call 70; refine (fault_Wrap _ _ _ _ _).mono ?_; rintro e w' ⟨rfl, rfl⟩)
   | (go_at_call 72; refine (seals_Signed h who d).mono ?_; rintro e w1 ⟨rfl, hf1⟩; have h1 := h.fr hf1 id id; have hc1 := h1.blk.cell 0; have hlen := run_len_pair (P := Tryz.prog) (ty := 3) sealType.map h1.map))
  all_goals go_ret
  all_goals first
   | (obtain ⟨q1, q2⟩ := sign_bad (L := L) (show (clientOf who < 0 ∧ groupOf who < 0) ∨ d < 0 by omega); rw [q1, q2]; exact ⟨rfl, h, Fr.refl _ _⟩)
   | (obtain ⟨q1, q2⟩ := sign_in (L := L) (show ¬ ((clientOf who < 0 ∧ groupOf who < 0) ∨ d < 0) by omega) hm; rw [q1, q2]; exact ⟨rfl, h1, hf1.mono (fun _ _ hx => hx.elim)⟩)
 ·go_enter Tryz.func38, Tryz.ntmps38
  go_wp2_with (first
   | (go_at_call 68; refine (seals_Group who hi _).mono ?_; rintro e w' ⟨rfl, rfl⟩)
   | (go_at_call 69; refine (seals_Client who _).mono ?_; rintro e w' ⟨rfl, rfl⟩)
   | (go_at_call 71; refine (fault_Of _ rfl _).mono ?_; rintro e w' ⟨rfl, rfl⟩)
   | (go_at_call 70; refine (fault_Wrap _ _ _ _ _).mono ?_; rintro e w' ⟨rfl, rfl⟩)
   | (go_at_call 72; refine (seals_Signed h who d).mono ?_; rintro e w1 ⟨rfl, hf1⟩; have h1 := h.fr hf1 id id; have hc1 := h1.blk.cell 0; have hlen := run_len_pair (P := Tryz.prog) (ty := 3) sealType.map h1.map; obtain ⟨w2, hu, hf2, hm2⟩ := run_update_pair sealType h1.map who d hm))
  all_goals go_ret
  all_goals first
   | (obtain ⟨q1, q2⟩ := sign_bad (L := L) (show (clientOf who < 0 ∧ groupOf who < 0) ∨ d < 0 by omega); rw [q1, q2]; exact ⟨rfl, h, Fr.refl _ _⟩)
   | (obtain ⟨q1, q2⟩ := sign_full (L := L) (show ¬ ((clientOf who < 0 ∧ groupOf who < 0) ∨ d < 0) by omega) hm ‹_›; rw [q1, q2]; exact ⟨rfl, h1, hf1.mono (fun _ _ hx => hx.elim)⟩)
   | (obtain ⟨q1, q2⟩ := sign_new (L := L) (show ¬ ((clientOf who < 0 ∧ groupOf who < 0) ∨ d < 0) by omega) hm ‹_›; rw [q1, q2]; exact ⟨rfl, ⟨h1.blk.fr hf2 h1.ne, hm2⟩, (hf1.mono (fun _ _ hx => hx.elim)).trans hf2 (fun _ _ hx => hx)⟩)
def whoTo (g d : Int) (L : List (Int × Int)) (n : Nat) : List Nat := (List.range n).filter fun (i : Nat) => decide (0 ≤ memberOf g i ∧ (memberOf g i, d) ∈ L)
theorem whoTo_succ_yes {g d : Int} {L : List (Int × Int)} {n : Nat} (h0 : 0 ≤ memberOf g n) (h1 : (memberOf g n, d) ∈ L) : whoTo g d L (n + 1) = whoTo g d L n ++ [n] := by
 simp [whoTo, List.range_succ, h0, h1]
theorem whoTo_succ_no {g d : Int} {L : List (Int × Int)} {n : Nat} (h : ¬ (0 ≤ memberOf g n ∧ (memberOf g n, d) ∈ L)) : whoTo g d L (n + 1) = whoTo g d L n := by
 simp only [whoTo, List.range_succ, List.filter_append, List.filter_cons, List.filter_nil, decide_eq_true_eq, h]
 simp
theorem whoTo_le (g d : Int) (L : List (Int × Int)) (n : Nat) : (whoTo g d L n).length ≤ n := by
 have := List.length_filter_le (fun (i : Nat) => decide (0 ≤ memberOf g i ∧ (memberOf g i, d) ∈ L)) (List.range n)
 simpa [whoTo] using this
theorem int_info : (Tryz.prog.info? 3).map (fun i => (i.zero, i.size, i.bytes)) = some (some (.int .i64 0), 1, 8) := by kernel_rfl
def intVals (l : List Nat) : List Value := l.map fun (i : Nat) => Value.int .i64 i
theorem seals_Who {w : World} {g m : Nat} {L : List (Int × Int)} (h : SealsAt w g m L) (gr d : Int) :
  Calls Tryz.prog 78 #[.pointer (some ⟨g, 0, none⟩), .int .i64 gr, .int .i64 d] w fun e w' => ∃ v, e = .returned v ∧ w'.ownsRow w.heap.size 3 1 v (whoTo gr d L 10).length (intVals (whoTo gr d L 10)) ∧ Fr (fun _ => False) w w' := by
 obtain ⟨i0, hi, hz0, hz1, hz2⟩ := info_parts int_info
 go_enter Tryz.func78, Tryz.ntmps78
 go_wp2_with fail
 go_loopw [7, 10] (fun v i wr => ∃ k : Nat, k ≤ 10 ∧ i = .int .i64 k ∧ wr.ownsRow w.heap.size 3 1 v (whoTo gr d L k).length (intVals (whoTo gr d L k)) ∧ Fr (fun _ => False) w wr) (fun _ i _ => 10 - (intOf i).toNat)
 case atStart => exact ⟨0, by omega, rfl, ⟨rfl, .inl ⟨rfl, rfl⟩⟩, Fr.refl _ _⟩
 case round =>
  obtain ⟨k, hk, rfl, hown, hf⟩ := hrel
  have hr := h.fr hf id id
  by_cases hlt : k < 10
  ·by_cases h0 : 0 ≤ memberOf gr k
   ·by_cases hm : (memberOf gr k, d) ∈ L
    ·go_wp2_with (first
      | (go_at_call 101; refine (seals_Member gr k _).mono ?_; rintro e w' ⟨rfl, rfl⟩)
      | (go_at_call 72; refine (seals_Signed hr _ d).mono ?_; rintro e w1 ⟨rfl, hf1⟩; have hown1 := own_fr hown hf1 (fun _ _ => id); have hsz1 := hf1.size)
      | (at_builtin; go_loud (refine wpList_append1 _ rfl _ _ _ rfl w.heap.size 3 (.int .i64 0) 8 Tryz.underlying30 int_info rfl u7 _ _ rfl (hown1.alloc _) w1.heap.size (.int .i64 k) rfl ?_ rfl ?_ (by omega) ?_ ?_); (· simp); (· have := whoTo_le gr d L k; omega); (· have := hf.size; simp; omega); intro g2 c2 w2 hown2 hf2))
     go_roundw
     case rel =>
      have hfw : Fr (fun _ => False) w (w1.alloc (Obj.cells #[Value.int IntKind.i64 k] 3)) := (hf.then_ hf1).alloc _
      exact ⟨k + 1, by omega, by go_num, by rw [whoTo_succ_yes h0 hm]; simpa [intVals] using hown2, hfw.own hown1 hf2 (Nat.le_refl _)⟩
     case measure => simp [intOf]; omega
    ·go_wp2_with (first
      | (go_at_call 101; refine (seals_Member gr k _).mono ?_; rintro e w' ⟨rfl, rfl⟩)
      | (go_at_call 72; refine (seals_Signed hr _ d).mono ?_; rintro e w1 ⟨rfl, hf1⟩))
     go_roundw
     case rel => exact ⟨k + 1, by omega, by go_num, by rw [whoTo_succ_no (fun h => hm h.2)]; exact own_fr hown hf1 (fun _ _ => id), hf.then_ hf1⟩
     case measure => simp [intOf]; omega
   ·go_wp2_with (first
     | (go_at_call 101; refine (seals_Member gr k _).mono ?_; rintro e w' ⟨rfl, rfl⟩))
    go_roundw
    case rel => exact ⟨k + 1, by omega, by go_num, by rw [whoTo_succ_no (fun h => by have := h.1; omega)]; exact hown, hf⟩
    case measure => simp [intOf]; omega
  ·obtain rfl : k = 10 := by omega
   go_wp2
   go_ret
   exact ⟨_, rfl, hown, hf⟩
theorem b8_append {a b : List Int} (ha : B8 a) (hb : B8 b) : B8 (a ++ b) := fun x hx => (List.mem_append.1 hx).elim (ha x) (hb x)
theorem b8_num8 (n : Int) : B8 (num8 n) := by
 intro x hx
 obtain ⟨k, _, rfl⟩ : ∃ k : Nat, k < 8 ∧ x = n / 2 ^ (56 - 8 * k) % 256 := by
  simp only [num8, List.mem_map, List.mem_range] at hx
  obtain ⟨k, h1, h2⟩ := hx
  exact ⟨k, h1, h2.symm⟩
 omega
theorem b8_count4 (n : Int) : B8 (count4 n) := by
 intro x hx
 simp only [count4, List.mem_cons, List.not_mem_nil, or_false] at hx
 omega
theorem b8_textB (s : ByteArray) : B8 (textB (bytesOf s)) := b8_append (b8_count4 _) (bytesOf_8 s)
theorem b8_sayB (s : SayD) : B8 (sayB s) := by
 unfold sayB
 repeat first | exact b8_num8 _ | exact b8_textB _ | refine b8_append ?_ ?_
theorem sayB_length {s : SayD} (h : OkSay s) : (sayB s).length = 64 + s.from_.size + s.to_.size ∧ s.from_.size ≤ 16 ∧ s.to_.size ≤ 16 := by
 obtain ⟨a0, a1, a2, a3, a4, a5, a6, a7, a8, a9, a10, a11, a12, a13⟩ := h
 refine ⟨?_, by omega, by omega⟩
 simp [sayB, num8_length, textB, count4_length, bytesOf_length]
 omega
def sayI (L : List (List Int)) (s : SayD) : Int := if OkSay s then (digI L (sayB s) : Nat) else -1
def sayL (L : List (List Int)) (s : SayD) : List (List Int) := if OkSay s then digL L (sayB s) else L
def BookStep (w : World) (g m base : Nat) (v : Value) (L' : List (List Int)) (r : Value) (e : Ending) (w' : World) : Prop :=
 ∃ v', e = .returned r ∧ BookAt w' g m base v' L' ∧ Fr (fun k => k = g ∨ k = m ∨ v.ownBlock = some k) w w' ∧ ∀ k, v'.ownBlock = some k → v.ownBlock = some k ∨ w.heap.size ≤ k
theorem BookStep.before {w w1 w' : World} {g m base : Nat} {v : Value} {L' : List (List Int)} {r : Value} {e : Ending} (h : BookStep w1 g m base v L' r e w') (hf : Fr (fun _ => False) w w1) : BookStep w g m base v L' r e w' := by
 obtain ⟨v', h1, h2, h3, h4⟩ := h
 exact ⟨v', h1, h2, (hf.mono (fun _ _ h => h.elim)).trans h3 (fun _ _ h => h), fun k hk => (h4 k hk).imp_right (Nat.le_trans hf.size)⟩
theorem say_Digest1 {w : World} {g m base : Nat} {v : Value} {L : List (List Int)} (h : BookAt w g m base v L) (hbase : base ≤ w.heap.size) (hL : L.length < 65536) (kind txn : Int) (yes : Bool) (ff tt : ByteArray) (epoch shard target root : Int) :
  Calls Tryz.prog 42 #[.pointer (some ⟨g, 0, none⟩), .agg #[.int .i64 kind, .int .i64 txn, .bool yes, .string ff, .string tt, .int .i64 epoch, .int .i64 shard, .int .i64 target, .int .i64 root]] w (BookStep w g m base v (sayL L ⟨kind, txn, yes, ff, tt, epoch, shard, target, root⟩) (.tuple #[.int .i64 (sayI L ⟨kind, txn, yes, ff, tt, epoch, shard, target, root⟩), errO (saidO ⟨kind, txn, yes, ff, tt, epoch, shard, target, root⟩)])) := by
 have HP := Lib.hid (fun w => say_Put1 w kind txn yes ff tt epoch shard target root)
 have hB0 := Blk.new w 23 #[.int .i64 kind, .int .i64 txn, .bool yes, .string ff, .string tt, .int .i64 epoch, .int .i64 shard, .int .i64 target, .int .i64 root]
 have hf0 : Fr (fun _ => False) w (w.alloc (Obj.cells #[.int .i64 kind, .int .i64 txn, .bool yes, .string ff, .string tt, .int .i64 epoch, .int .i64 shard, .int .i64 target, .int .i64 root] 23)) := (Fr.refl _ _).alloc _
 by_cases hok : OkSay ⟨kind, txn, yes, ff, tt, epoch, shard, target, root⟩
 ·obtain ⟨hl1, hl2, hl3⟩ := sayB_length hok
  have hb8 := b8_sayB ⟨kind, txn, yes, ff, tt, epoch, shard, target, root⟩
  unfold sayI sayL saidO
  rw [if_pos hok, if_pos hok, if_pos hok]
  have HP : Hid (∀ w, Calls Tryz.prog 77 #[.agg #[.int .i64 kind, .int .i64 txn, .bool yes, .string ff, .string tt, .int .i64 epoch, .int .i64 shard, .int .i64 target, .int .i64 root]] w fun e w' => ∃ v, e = .returned (.tuple #[v, .nilIface]) ∧ Own8 w' w.heap.size v (sayB ⟨kind, txn, yes, ff, tt, epoch, shard, target, root⟩) ∧ Fr (fun _ => False) w w') := fun w => (HP.out w).mono fun e w' ⟨v, h1, h2, h3⟩ => by
   unfold saidO at h1
   rw [if_pos hok] at h1 h2
   exact ⟨v, h1, h2, h3⟩
  clear hok
  generalize sayB ⟨kind, txn, yes, ff, tt, epoch, shard, target, root⟩ = xs at hl1 hb8 HP ⊢
  have HL1 : Hid (xs.length ≤ 65536) := by show _ ≤ _; dsimp only at hl1 hl2 hl3; omega
  have HB8 := Lib.hid hb8
  clear hl1 hl2 hl3 hb8
  go_enter Tryz.func42, Tryz.ntmps42
  go_wp2_with fail
  refine (HP.out _).mono ?_
  rintro e w1 ⟨v1, rfl, hv1, hf1⟩
  have hf01 := hf0.then_ hf1
  have hB1 := hB0.fr hf1 id
  obtain ⟨A1, cap1, rfl, _, hr1⟩ := hv1.form
  have hb1 := h.keep hf01
  clear hB0 hf0 hf1 hv1 HP
  go_wp2_with fail
  refine (book_Digest hb1 (Nat.le_trans hbase hf01.size) hr1 HB8.out HL1.out hL).mono ?_
  rintro e w2 ⟨v2, rfl, hb2, hf2, hk2⟩
  have hB2 := hB1.fr hf2 (fun e => by
   rcases e with e | e | e
   ·exact hB1.ne_ hb1.blk (by decide) e
   ·obtain ⟨⟨es, cl, h1, _⟩, _⟩ := hb1.map
    exact hB1.ne_map h1 e
   ·exact own_ne_blk hb1.own hB1 (by decide) e)
  have hc2 := hB2.cell 0
  go_wp2_with (go_at_call 70; refine (fault_Wrap_nil _ _ _).mono ?_; rintro e w' ⟨rfl, rfl⟩)
  refine bodyPost_ret (v := .tuple #[.int .i64 (digI L xs : Nat), .nilIface]) (by simp [results, Tryz.results42, go_sem]) rfl ?_
  exact BookStep.before ⟨v2, rfl, hb2, hf2, hk2⟩ hf01
 ·have hso : saidO ⟨kind, txn, yes, ff, tt, epoch, shard, target, root⟩ = some ([((⟨#[115, 97, 121]⟩ : ByteArray), kind)], 111) := if_neg hok
  unfold sayI sayL
  rw [if_neg hok, if_neg hok, hso]
  obtain ⟨t, u, hu⟩ := errO_some ([((⟨#[115, 97, 121]⟩ : ByteArray), kind)], 111)
  have HP : Hid (∀ w, Calls Tryz.prog 77 #[.agg #[.int .i64 kind, .int .i64 txn, .bool yes, .string ff, .string tt, .int .i64 epoch, .int .i64 shard, .int .i64 target, .int .i64 root]] w fun e w' => ∃ A n cap, e = .returned (.tuple #[.slice A n cap, .iface t u]) ∧ Fr (fun _ => False) w w') := fun w => (HP.out w).mono fun e w' ⟨v, h1, h2, h3⟩ => by
   rw [hso, hu] at h1
   obtain ⟨A, cap, rfl, _, _⟩ := h2.form
   exact ⟨_, _, _, h1, h3⟩
  rw [hu]
  clear hok hso hu
  go_enter Tryz.func42, Tryz.ntmps42
  go_wp2_with (go_at_call 77; refine (HP.out _).mono ?_; rintro e w1 ⟨A1, n1, cap1, rfl, hf1⟩)
  have hf01 := hf0.then_ hf1
  refine bodyPost_ret (v := .tuple #[.int .i64 (-1), .iface t u]) (by simp [results, Tryz.results42, go_sem]) rfl ?_
  exact BookStep.before ⟨v, rfl, h.keep hf01, Fr.refl _ _, fun k hk => .inl hk⟩ hf01
structure BS (w : World) (g m base : Nat) (v : Value) (L : List (List Int)) (gs ms : Nat) (SL : List (Int × Int)) : Prop where
 book : BookAt w g m base v L
 seals : SealsAt w gs ms SL
 ne : m ≠ ms
theorem BS.keep {w w' : World} {g m base : Nat} {v : Value} {L : List (List Int)} {gs ms : Nat} {SL : List (Int × Int)} (h : BS w g m base v L gs ms SL) (hf : Fr (fun _ => False) w w') : BS w' g m base v L gs ms SL := ⟨h.book.keep hf, h.seals.fr hf id id, h.ne⟩
theorem BS.apart {w : World} {g m base : Nat} {v : Value} {L : List (List Int)} {gs ms : Nat} {SL : List (Int × Int)} (h : BS w g m base v L gs ms SL) : (∀ k, k = gs ∨ k = ms → ¬ (k = g ∨ k = m ∨ v.ownBlock = some k)) := by
 obtain ⟨es, cl, h1, _⟩ := h.seals.map
 obtain ⟨⟨es2, cl2, h2, _⟩, _⟩ := h.book.map
 intro k hk e
 rcases hk with rfl | rfl
 ·rcases e with e | e | e
  ·exact h.seals.blk.ne_ h.book.blk (by decide) e
  ·exact h.seals.blk.ne_map h2 e
  ·exact own_ne_blk h.book.own h.seals.blk (by decide) e
 ·rcases e with e | e | e
  ·exact h.book.blk.ne_map h1 e.symm
  ·exact h.ne e.symm
  ·exact own_ne_map h.book.own h.seals.map e
theorem BS.bookStep {w w' : World} {g m base : Nat} {v v' : Value} {L L' : List (List Int)} {gs ms : Nat} {SL : List (Int × Int)} (h : BS w g m base v L gs ms SL) (hb : BookAt w' g m base v' L') (hf : Fr (fun k => k = g ∨ k = m ∨ v.ownBlock = some k) w w') : BS w' g m base v' L' gs ms SL :=
 ⟨hb, h.seals.fr hf (h.apart gs (.inl rfl)) (h.apart ms (.inr rfl)), h.ne⟩
theorem BS.sealStep {w w' : World} {g m base : Nat} {v : Value} {L : List (List Int)} {gs ms : Nat} {SL SL' : List (Int × Int)} (h : BS w g m base v L gs ms SL) (hs : SealsAt w' gs ms SL') (hf : Fr (fun k => k = ms) w w') : BS w' g m base v L gs ms SL' := by
 have ha := h.apart ms (.inr rfl)
 exact ⟨h.book.fr hf (fun e => ha (.inl e.symm)) (fun e => ha (.inr (.inl e.symm))) (fun k hk e => ha (.inr (.inr (e ▸ hk)))), hs, h.ne⟩
def BSStep (w : World) (g m base : Nat) (v : Value) (L' : List (List Int)) (gs ms : Nat) (SL' : List (Int × Int)) (r : Value) (e : Ending) (w' : World) : Prop :=
 ∃ v', e = .returned r ∧ BS w' g m base v' L' gs ms SL' ∧ Fr (fun k => k = g ∨ k = m ∨ v.ownBlock = some k ∨ k = ms) w w' ∧ ∀ k, v'.ownBlock = some k → v.ownBlock = some k ∨ w.heap.size ≤ k
theorem b8_flat {α : Type} {f : α → List Int} (h : ∀ x, B8 (f x)) (l : List α) : B8 (l.flatMap f) := fun y hy => by
 obtain ⟨x, _, hx⟩ := List.mem_flatMap.1 hy
 exact h x y hx
theorem b8_txnB (c n : Int) (R : List (ByteArray × Int)) (W : List (ByteArray × ByteArray)) : B8 (txnB c n R W) :=
 b8_append (b8_append (b8_append (b8_append (b8_append (b8_num8 _) (b8_num8 _)) (b8_num8 _)) (b8_flat (fun _ => b8_append (b8_textB _) (b8_num8 _)) R)) (b8_num8 _)) (b8_flat (fun _ => b8_append (b8_textB _) (b8_textB _)) W)
theorem txnB_len {c n : Int} {R : List (ByteArray × Int)} {W : List (ByteArray × ByteArray)} (h : TOk c n R W) : (txnB c n R W).length ≤ 65536 := by
 have h1 := fl_le R (readB_le (read_sizes h.2.2.2.2.2.1))
 have h2 := fl_le W (writeB_le (write_sizes h.2.2.2.2.2.2))
 have h3 := rises_len h.2.2.2.2.2.1
 have h4 := rises_len h.2.2.2.2.2.2
 simp only [txnB, List.length_append, num8_length]
 omega
theorem BS.bookFr {w w' : World} {g m base : Nat} {v : Value} {L : List (List Int)} {gs ms : Nat} {SL : List (Int × Int)} {t : TypeId} {x : Nat} {cs : Array Value} (h : BS w g m base v L gs ms SL) (hB : Blk w x t cs) (h1 : t ≠ 125) (h2 : 9 ≠ t) (hf : Fr (fun k => k = g ∨ k = m ∨ v.ownBlock = some k ∨ k = ms) w w') : Blk w' x t cs :=
 hB.fr hf (fun e => by
  rcases e with e | e | e | e
  ·exact hB.ne_ h.book.blk h1 e
  ·obtain ⟨⟨es, cl, h3, _⟩, _⟩ := h.book.map
   exact hB.ne_map h3 e
  ·exact own_ne_blk h.book.own hB h2 e
  ·obtain ⟨es, cl, h3, _⟩ := h.seals.map
   exact hB.ne_map h3 e)
def PutNo (w : World) (r : Value) (e : Ending) (w' : World) : Prop := ∃ x, e = .returned (.tuple #[x, r]) ∧ x = .slice none 0 0 ∧ Fr (fun _ => False) w w'
def FewT (R : List (ByteArray × Int)) (W : List (ByteArray × ByteArray)) : Prop := R.length ≤ 9223372036854775807 ∧ W.length ≤ 9223372036854775807 ∧ (R.length + W.length ≤ 40 ∨ 9223372036854775807 < R.length + W.length)
theorem wrap_big {a b : Nat} (ha : a ≤ 9223372036854775807) (hb : b ≤ 9223372036854775807) (h : 9223372036854775807 < a + b) : ¬ (0 : Int) < IntKind.i64.wrap ((a : Int) + (b : Int)) := by
 unfold IntKind.wrap
 simp [IntKind.bits, IntKind.signed]
 omega
theorem tok_no {c n : Int} {R : List (ByteArray × Int)} {W : List (ByteArray × ByteArray)} {z : Bool} (hz : Hid (decide (TOk c n R W) = z)) (h : ¬ TOk c n R W) {w w' : World} (hf : Fr (fun _ => False) w w') : OkB w z (.returned (.bool false)) w' := ⟨by rw [← hz.out, decide_eq_false h], hf⟩
theorem txn_right_any {w : World} {F : Nat → Prop} {A B : Option Addr} {cr cw : Nat} {c n : Int} {R : List (ByteArray × Int)} {W : List (ByteArray × ByteArray)} (hr : ReadRow w F A R) (hw : WriteRow w F B W) (hs : FewT R W) :
  Calls Tryz.prog 138 #[.agg #[.int .i64 c, .int .i64 n, .slice A R.length cr, .slice B W.length cw]] w (OkB w (decide (TOk c n R W))) := by
 have hf0 : Fr (fun _ => False) w (w.alloc (Obj.cells #[.int .i64 c, .int .i64 n, .slice A R.length cr, .slice B W.length cw] 29)) := (Fr.refl _ _).alloc _
 obtain ⟨z, HZ⟩ : ∃ z, Hid (decide (TOk c n R W) = z) := ⟨_, rfl⟩
 rw [HZ.out]
 have HS := Lib.hid hs
 have HR0 := Lib.hid hr
 have HW0 := Lib.hid hw
 clear hs hr hw
 by_cases h0 : 0 ≤ c
 case neg =>
  go_enter Tryz.func138, Tryz.ntmps138
  go_wp2_with fail
  go_ret
  exact tok_no HZ (fun e => absurd e.1 (by omega)) hf0
 case pos =>
 by_cases h1 : c < 16
 case neg =>
  go_enter Tryz.func138, Tryz.ntmps138
  go_wp2_with fail
  go_ret
  exact tok_no HZ (fun e => absurd e.2.1 (by omega)) hf0
 case pos =>
 by_cases h2 : 1 ≤ n
 case neg =>
  go_enter Tryz.func138, Tryz.ntmps138
  go_wp2_with fail
  go_ret
  exact tok_no HZ (fun e => absurd e.2.2.1 (by omega)) hf0
 case pos =>
 by_cases h3 : n ≤ 1099511627776
 case neg =>
  go_enter Tryz.func138, Tryz.ntmps138
  go_wp2_with fail
  go_ret
  exact tok_no HZ (fun e => absurd e.2.2.2.1 (by omega)) hf0
 case pos =>
 obtain ⟨sm, HSM⟩ : ∃ sm, Hid (IntKind.i64.wrap ((R.length : Int) + (W.length : Int)) = sm) := ⟨_, rfl⟩
 have hsum := HSM.out
 by_cases h4 : 0 < sm
 case neg =>
  have HNO : Hid (¬ TOk c n R W) := fun e => by
   have l1 := rises_len e.2.2.2.2.2.1
   have l2 := rises_len e.2.2.2.2.2.2
   have l3 := e.2.2.2.2.1
   have := wrap_i64 (R.length + W.length) (by omega)
   rw [Int.natCast_add, HSM.out] at this
   omega
  go_enter Tryz.func138, Tryz.ntmps138
  go_wp2_with fail
  go_ret
  exact tok_no HZ HNO.out hf0
 case pos =>
 have HFEW : Hid (R.length + W.length ≤ 40 ∧ (0 : Int) < (R.length : Int) + W.length) := by
  obtain ⟨b1, b2, b3⟩ := HS.out
  rcases b3 with b3 | b3
  ·refine ⟨b3, ?_⟩
   have := wrap_i64 (R.length + W.length) (by omega)
   rw [Int.natCast_add, HSM.out] at this
   omega
  ·exact absurd (by rw [HSM.out]; exact h4) (wrap_big b1 b2 b3)
 have hB0 := Blk.new w 29 #[.int .i64 c, .int .i64 n, .slice A R.length cr, .slice B W.length cw]
 have HT : Hid (TOk c n R W ↔ rises readOk R = true ∧ rises writeOk W = true) := ⟨fun e => ⟨e.2.2.2.2.2.1, e.2.2.2.2.2.2⟩, fun e => ⟨h0, h1, h2, h3, HFEW.out.2, e.1, e.2⟩⟩
 have HR := txn_rises_read (cap := cr) (HR0.out.fr hf0 (fun _ _ => id)) (by have := HFEW.out.1; omega)
 have HW : Hid (∀ w', Fr (fun _ => False) w w' → Calls Tryz.prog 168 #[.slice B W.length cw, .func (.func 169) #[] #[], .func (.func 170) #[] #[]] w' (OkB w' (rises writeOk W))) := fun w' hf =>
  txn_rises_write (cap := cw) (HW0.out.fr hf (fun _ _ => id)) (by have := HFEW.out.1; omega)
 generalize hb1 : rises readOk R = b1 at *
 generalize hb2 : rises writeOk W = b2 at *
 have HR := Lib.hid HR
 clear hb1 hb2
 have HZ2 : Hid (z = (b1 && b2)) := HZ.out.symm.trans (by rw [Bool.eq_iff_iff, decide_eq_true_eq, Bool.and_eq_true]; exact HT.out)
 clear HZ HT
 cases b1
 case false =>
  go_enter Tryz.func138, Tryz.ntmps138
  go_wp2_with (first | (go_at_call 165; refine HR.out.mono ?_; rintro e w1 ⟨rfl, hf1⟩; have hf01 := hf0.then_ hf1))
  go_ret
  exact ⟨by rw [HZ2.out]; rfl, hf01⟩
 case true =>
  cases b2
  case false =>
   go_enter Tryz.func138, Tryz.ntmps138
   go_wp2_with (first | (go_at_call 165; refine HR.out.mono ?_; rintro e w1 ⟨rfl, hf1⟩; have hf01 := hf0.then_ hf1; have hc3 := (hB0.fr hf1 id).cell 3) | (go_at_call 168; refine (HW.out _ hf01).mono ?_; rintro e w2 ⟨rfl, hf2⟩))
   go_ret
   exact ⟨by rw [HZ2.out]; rfl, hf01.then_ hf2⟩
  case true =>
   go_enter Tryz.func138, Tryz.ntmps138
   go_wp2_with (first | (go_at_call 165; refine HR.out.mono ?_; rintro e w1 ⟨rfl, hf1⟩; have hf01 := hf0.then_ hf1; have hc3 := (hB0.fr hf1 id).cell 3) | (go_at_call 168; refine (HW.out _ hf01).mono ?_; rintro e w2 ⟨rfl, hf2⟩))
   go_ret
   exact ⟨by rw [HZ2.out]; rfl, hf01.then_ hf2⟩
theorem txn_Check_bad {w : World} {F : Nat → Prop} {A B : Option Addr} {cr cw : Nat} {c n : Int} {R : List (ByteArray × Int)} {W : List (ByteArray × ByteArray)} (hr : ReadRow w F A R) (hw : WriteRow w F B W) (hs : FewT R W) (hno : ¬ TOk c n R W) :
  Calls Tryz.prog 111 #[.agg #[.int .i64 c, .int .i64 n, .slice A R.length cr, .slice B W.length cw]] w (TxnErr w) := by
 have hf0 : Fr (fun _ => False) w (w.alloc (Obj.cells #[.int .i64 c, .int .i64 n, .slice A R.length cr, .slice B W.length cw] 29)) := (Fr.refl _ _).alloc _
 have HR := txn_right_any (cr := cr) (cw := cw) (c := c) (n := n) (hr.fr hf0 (fun _ _ => id)) (hw.fr hf0 (fun _ _ => id)) hs
 rw [decide_eq_false hno] at HR
 have HR := Lib.hid HR
 have HW := fun w => txn_wrap_err [] 101 w
 obtain ⟨t, u, hu⟩ := errV_iface [] 101
 obtain ⟨t2, u2, hu2⟩ := errV_iface [((⟨#[116, 120, 110]⟩ : ByteArray), 0)] 101
 have HO := fun w => fault_Of 101 rfl w
 rw [hu, hu2] at HW
 rw [hu] at HO
 have HW := Lib.hid HW
 have HO := Lib.hid HO
 unfold TxnErr
 rw [hu2]
 clear hr hw hs hno hu hu2
 go_enter Tryz.func111, Tryz.ntmps111
 go_wp2_with (first | (go_at_call 138; refine HR.out.mono ?_; rintro e w1 ⟨rfl, hf1⟩) | (go_at_call 71; refine (HO.out _).mono ?_; rintro e w2 ⟨rfl, rfl⟩) | (go_at_call 109; refine (HW.out _).mono ?_; rintro e w2 ⟨rfl, rfl⟩))
 go_ret
 exact ⟨rfl, hf0.then_ hf1⟩
theorem txn_Put_bad {w : World} {F : Nat → Prop} {A B : Option Addr} {cr cw : Nat} {c n : Int} {R : List (ByteArray × Int)} {W : List (ByteArray × ByteArray)} (hr : ReadRow w F A R) (hw : WriteRow w F B W) (hs : FewT R W) (hno : ¬ TOk c n R W) :
  Calls Tryz.prog 149 #[.agg #[.int .i64 c, .int .i64 n, .slice A R.length cr, .slice B W.length cw]] w (PutNo w (errV [((⟨#[116, 120, 110]⟩ : ByteArray), 0)] 101)) := by
 have hf0 : Fr (fun _ => False) w (w.alloc (Obj.cells #[.int .i64 c, .int .i64 n, .slice A R.length cr, .slice B W.length cw] 29)) := (Fr.refl _ _).alloc _
 obtain ⟨t, u, hu⟩ := errV_iface [((⟨#[116, 120, 110]⟩ : ByteArray), 0)] 101
 have HC := txn_Check_bad (cr := cr) (cw := cw) (c := c) (n := n) (hr.fr hf0 (fun _ _ => id)) (hw.fr hf0 (fun _ _ => id)) hs hno
 unfold TxnErr at HC
 rw [hu] at HC ⊢
 have HC := Lib.hid HC
 clear hr hw hs hno hu
 go_enter Tryz.func149, Tryz.ntmps149
 go_wp2_with (go_at_call 111; refine HC.out.mono ?_; rintro e w1 ⟨rfl, hf1⟩)
 refine bodyPost_ret (v := .tuple #[.slice none 0 0, .iface t u]) (by simp [results, Tryz.results149, go_sem]) rfl ?_
 exact ⟨_, rfl, rfl, hf0.then_ hf1⟩
end Go.Proofs.YtmkdhhhoodeemaaGreat
