/- wire: the Writer's Bytes; New, cut. -/
import Derived.Test.YtkbcobbnjiekfaaDoorWire
namespace Go.Proofs.YtkbcobbnjiekfaaDoor
open Go Go.RowKit
def wbytes (bs : List Int) : Option Nat → List Int
  | none => bs
  | some _ => []
def Got (w : World) (bs : List Int) (bad : Option Nat) (e : Ending) (w' : World) : Prop :=
  ∃ v, e = .returned (.tuple #[v, errW bad]) ∧ Own8 w' w.heap.size v (wbytes bs bad) ∧ Fr (fun _ => False) w w'
set_option maxRecDepth 100000 in
theorem writer_Bytes {w : World} {g base : Nat} {v : Value} {bs : List Int} {bad : Option Nat} (h : WriterAt w g base v bs bad) (hl : bs.length ≤ 1099511627776) :
    Calls Tryd.prog 11 #[.pointer (some ⟨g, 0, none⟩)] w (Got w bs bad) := by
  obtain ⟨A, cap, rfl, _, hr⟩ := h.own.form
  have c0 : w.cell? ⟨g, 0, none⟩ = some (.slice A bs.length cap) := h.blk.cell 0
  cases bad with
  | none =>
    have c1 : w.cell? ⟨g, 1, none⟩ = some .nilIface := h.blk.cell 1
    go_enter Tryd.func11, Tryd.ntmps11
    go_wp2_with (go_at_call 38; refine (bytes_Clone hr rfl hl).mono ?_; rintro e w1 ⟨v1, rfl, h1, hf1⟩)
    refine bodyPost_ret (v := .tuple #[v1, .nilIface]) (by simp [results, Tryd.results11, go_sem]) rfl ?_
    exact ⟨v1, rfl, h1, hf1⟩
  | some a =>
    obtain ⟨t, u, hu⟩ := errV_iface [((⟨#[119, 114, 105, 116, 101]⟩ : ByteArray), (a : Int))] 2
    have hW : Hid (errW (some a) = .iface t u) := hu
    have c1 : w.cell? ⟨g, 1, none⟩ = some (.iface t u) := by rw [← hu]; exact h.blk.cell 1
    go_enter Tryd.func11, Tryd.ntmps11
    go_wp2_with fail
    go_quiet (fail)
    go_wp2
    refine bodyPost_ret (v := .tuple #[.slice none 0 0, .iface t u]) (by simp [results, Tryd.results11, go_sem]) rfl ?_
    exact ⟨_, by rw [hW.out], Own8.nil _ _, (Fr.refl _ _).drewN _⟩
/-- The place so far on. -/
def atPos (A : Option Addr) (pos : Nat) : Option Addr := A.map fun a => a.add pos
/-- A reader at g: its bytes, how many of them are read, what is wrong. -/
structure ReaderAt (w : World) (g : Nat) (A : Option Addr) (bs : List Int) (pos : Nat) (err : Option (List (ByteArray × Int) × Int)) : Prop where
  blk : ∃ A' cap, bs.length - pos ≤ cap ∧ (pos < bs.length → A' = atPos A pos) ∧ Blk w g 70 #[.slice A' (bs.length - pos) cap, .int .i64 pos, errO err]
  row : ByteRow w (fun k => ∃ o, A = some ⟨k, o, none⟩) A bs
  le : pos ≤ bs.length
  ne : ∀ k o, A = some ⟨k, o, none⟩ → k ≠ g
  alt : ∀ k o, A = some ⟨k, o, none⟩ → k < w.heap.size
theorem ReaderAt.fr {S : Nat → Prop} {w w' : World} {g : Nat} {A : Option Addr} {bs : List Int} {pos : Nat} {err : Option (List (ByteArray × Int) × Int)} (h : ReaderAt w g A bs pos err) (hf : Fr S w w') (hg : ¬ S g) (hv : ∀ k o, A = some ⟨k, o, none⟩ → ¬ S k) : ReaderAt w' g A bs pos err := by
  obtain ⟨A', cap, hc, hA, hb⟩ := h.blk
  exact ⟨⟨A', cap, hc, hA, hb.fr hf hg⟩, h.row.fr hf (fun k ⟨o, e⟩ => hv k o e), h.le, h.ne, fun k o e => Nat.lt_of_lt_of_le (h.alt k o e) hf.size⟩
def NewAt (w : World) (bs : List Int) (e : Ending) (w' : World) : Prop :=
  ∃ g A, e = .returned (.pointer (some ⟨g, 0, none⟩)) ∧ ReaderAt w' g A bs 0 none ∧ w.heap.size ≤ g ∧ (∀ k o, A = some ⟨k, o, none⟩ → w.heap.size ≤ k) ∧ Fr (fun _ => False) w w'
theorem wire_New {w : World} {F : Nat → Prop} {A : Option Addr} {bs : List Int} {cap : Nat} (hr : ByteRow w F A bs) (hl : bs.length ≤ 1099511627776) :
    Calls Tryd.prog 12 #[.slice A bs.length cap] w (NewAt w bs) := by
  go_enter Tryd.func12, Tryd.ntmps12
  go_wp2_with (go_at_call 38; refine (bytes_Clone hr rfl hl).mono ?_; rintro e w1 ⟨v1, rfl, h1, hf1⟩; obtain ⟨A1, cap1, rfl, hc1, hr1⟩ := h1.form)
  go_ret
  refine ⟨w1.heap.size, A1, rfl, ⟨⟨A1, cap1, hc1, fun _ => ?_, ?_⟩, ?_, Nat.zero_le _, ?_, ?_⟩, hf1.size, ?_, hf1.alloc _⟩
  · cases A1 <;> rfl
  · exact Blk.new w1 70 #[.slice A1 bs.length cap1, .int .i64 0, .nilIface]
  · intro k x hx
    obtain ⟨b, o, e, _, hc⟩ := hr1 k x hx
    exact ⟨b, o, e, ⟨o, e⟩, ((Fr.refl (fun _ => False) w1).alloc _).cell_some hc id⟩
  · rintro k o rfl
    have := h1.lt k rfl
    omega
  · rintro k o rfl
    have := h1.lt k rfl
    simp
    omega
  · rintro k o rfl
    rcases h1.2 with ⟨e, _⟩ | ⟨g, cap, cur, e, hg, _⟩
    · cases e
    · cases e
      exact hg
theorem ReaderAt.rest {w : World} {g : Nat} {A : Option Addr} {bs : List Int} {pos : Nat} {err : Option (List (ByteArray × Int) × Int)} (h : ReaderAt w g A bs pos err) (hp : pos < bs.length) : ∃ b o, A = some ⟨b, o, none⟩ ∧ atPos A pos = some ⟨b, o + pos, none⟩ := by
  obtain ⟨b, o, e, _⟩ := h.row pos _ (List.getElem?_eq_getElem hp)
  exact ⟨b, o, e, by rw [e, atPos, Option.map_some, add_at]⟩
theorem ReaderAt.part {w : World} {g : Nat} {A A' : Option Addr} {bs : List Int} {pos n : Nat} {err : Option (List (ByteArray × Int) × Int)} (h : ReaderAt w g A bs pos err) (hA : pos < bs.length → A' = atPos A pos) : ByteRow w (fun k => ∃ o, A = some ⟨k, o, none⟩) A' ((bs.drop pos).take n) := by
  intro k x hx
  rw [List.getElem?_take] at hx
  split at hx
  · rw [List.getElem?_drop] at hx
    have hp : pos < bs.length := by
      have := (List.getElem?_eq_some_iff.1 hx).1
      omega
    obtain ⟨b, o, e, hF, hc⟩ := h.row _ x hx
    exact ⟨b, o + pos, by rw [hA hp, e, atPos, Option.map_some, add_at], hF, by rw [Nat.add_assoc]; exact hc⟩
  · cases hx
/-- What is cut off, or that there is too little. -/
def Cut (w : World) (g : Nat) (A : Option Addr) (bs : List Int) (pos n : Nat) (err : Option (List (ByteArray × Int) × Int)) (e : Ending) (w' : World) : Prop :=
  (bs.length - pos < n ∧ e = .returned (.tuple #[.slice none 0 0, .int .i64 21]) ∧ w = w') ∨
  (n ≤ bs.length - pos ∧ ∃ A', e = .returned (.tuple #[.slice A' n n, .int .i64 0]) ∧ ByteRow w' (fun k => ∃ o, A = some ⟨k, o, none⟩) A' ((bs.drop pos).take n) ∧ ReaderAt w' g A bs (pos + n) err ∧ Fr (fun k => k = g) w w')
theorem cut_yes {w : World} {g : Nat} {A A1 A2 : Option Addr} {bs : List Int} {pos n cap : Nat} {err : Option (List (ByteArray × Int) × Int)} (h : ReaderAt w g A bs pos err) (hn : n ≤ bs.length - pos) (h1 : pos < bs.length → A1 = atPos A pos) (h2 : pos + n < bs.length → A2 = atPos A (pos + n)) (hc : bs.length - pos - n ≤ cap) {l : Nat} (hl : l = bs.length - pos - n)
    {w' : World} (hw : w' = (w.setCell ⟨g, 0, none⟩ (.slice A2 l cap)).setCell ⟨g, 1, none⟩ (.int .i64 ((pos + n : Nat) : Int))) :
    Cut w g A bs pos n err (.returned (.tuple #[.slice A1 n n, .int .i64 0])) w' := by
  subst hw
  subst hl
  obtain ⟨A', cap', _, _, hb⟩ := h.blk
  have hf : Fr (fun k => k = g) w ((w.setCell ⟨g, 0, none⟩ (.slice A2 (bs.length - pos - n) cap)).setCell ⟨g, 1, none⟩ (.int .i64 ((pos + n : Nat) : Int))) := ((Fr.refl (fun k => k = g) w).setCell (p := ⟨g, 0, none⟩) (fun _ => rfl) _).setCell (p := ⟨g, 1, none⟩) (fun _ => rfl) _
  have hne : ∀ k, (∃ o, A = some ⟨k, o, none⟩) → ¬ k = g := fun k ⟨o, e⟩ => h.ne k o e
  refine .inr ⟨hn, A1, rfl, (h.part h1).fr hf hne, ⟨⟨A2, cap, by omega, h2, ?_⟩, h.row.fr hf hne, by have := h.le; omega, h.ne, fun k o e => Nat.lt_of_lt_of_le (h.alt k o e) hf.size⟩, hf⟩
  have := (hb.set_ 0 (.slice A2 (bs.length - pos - n) cap)).set_ 1 (.int .i64 ((pos + n : Nat) : Int))
  rw [show bs.length - (pos + n) = bs.length - pos - n by omega]
  exact this
set_option maxRecDepth 100000 in
theorem reader_cut {w : World} {g : Nat} {A : Option Addr} {bs : List Int} {pos : Nat} {err : Option (List (ByteArray × Int) × Int)} (h : ReaderAt w g A bs pos err) (hl : bs.length ≤ 1099511627776) (n : Nat) :
    Calls Tryd.prog 64 #[.pointer (some ⟨g, 0, none⟩), .int .i64 n] w (Cut w g A bs pos n err) := by
  obtain ⟨A', cap, hcap, hA, hb⟩ := h.blk
  have c0 : w.cell? ⟨g, 0, none⟩ = some (.slice A' (bs.length - pos) cap) := hb.cell 0
  have c1 : w.cell? ⟨g, 1, none⟩ = some (.int .i64 pos) := hb.cell 1
  have z0 := hb.frozen 0
  have z1 := hb.frozen 1
  have hle := h.le
  by_cases hn : bs.length - pos < n
  · have hn' : ((bs.length - pos : Nat) : Int) < (n : Int) := by omega
    go_enter Tryd.func64, Tryd.ntmps64
    go_wp2
    refine bodyPost_ret (v := .tuple #[.slice none 0 0, .int .i64 21]) (by simp [results, Tryd.results64, go_sem]) rfl ?_
    exact .inl ⟨hn, rfl, rfl⟩
  · have hn' : ¬ ((bs.length - pos : Nat) : Int) < (n : Int) := by omega
    have hn2 : n ≤ bs.length - pos := by omega
    have hn3 : n ≤ cap := by omega
    have HA := Lib.hid hA
    have H := Lib.hid h
    by_cases hp : pos < bs.length
    · obtain ⟨b, o, rfl, e1⟩ := h.rest hp
      obtain rfl := (hA hp).trans e1
      clear hA h hb
      go_enter Tryd.func64, Tryd.ntmps64
      go_wp2
      · refine bodyPost_ret (v := .tuple #[.slice (some ⟨b, o + pos, none⟩) n n, .int .i64 0]) (by simp [results, Tryd.results64, go_sem]) rfl ?_
        exact cut_yes H.out hn2 HA.out (A2 := some ⟨b, o + pos, none⟩) (l := bs.length - pos - n) (cap := 0) (fun h => by omega) (by omega) rfl rfl
      · refine bodyPost_ret (v := .tuple #[.slice (some ⟨b, o + pos, none⟩) n n, .int .i64 0]) (by simp [results, Tryd.results64, go_sem]) rfl ?_
        exact cut_yes H.out hn2 HA.out (A2 := some ⟨b, o + pos + n, none⟩) (l := bs.length - pos - n) (cap := cap - n) (fun h => by rw [atPos, Option.map_some, add_at, Nat.add_assoc]) (by omega) rfl rfl
    · have h0 : bs.length - pos = 0 := by omega
      obtain rfl : n = 0 := by omega
      rw [h0] at c0
      cases A' with
      | none =>
        clear hA h hb
        go_enter Tryd.func64, Tryd.ntmps64
        go_wp2
        refine bodyPost_ret (v := .tuple #[.slice none 0 0, .int .i64 0]) (by simp [results, Tryd.results64, go_sem]) rfl ?_
        first
          | exact cut_yes H.out hn2 HA.out (A2 := none) (l := 0) (cap := 0) (fun h => by omega) (by omega) (by omega) rfl
          | exact cut_yes H.out hn2 HA.out (A2 := none) (l := 0) (cap := cap) (fun h => by omega) (by omega) (by omega) rfl
      | some a =>
        clear hA h hb
        go_enter Tryd.func64, Tryd.ntmps64
        go_wp2
        all_goals refine bodyPost_ret (v := .tuple #[.slice (some a) 0 0, .int .i64 0]) (by simp [results, Tryd.results64, go_sem]) rfl ?_
        all_goals first
          | exact cut_yes H.out hn2 HA.out (A2 := some a) (l := 0) (cap := 0) (fun h => by omega) (by omega) (by omega) rfl
          | exact cut_yes H.out hn2 HA.out (A2 := some a) (l := 0) (cap := cap) (fun h => by omega) (by omega) (by omega) rfl
end Go.Proofs.YtkbcobbnjiekfaaDoor
