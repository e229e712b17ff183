/- wire: the Reader's text; next; Int, Num, Text. -/
import Derived.Test.YtjnmfaaegbkmhaaSpell
namespace Go.Proofs.Ytjnmfaaegbkmhaa
open Go Go.RowKit
def inA (A : Option Addr) (k : Nat) : Prop := ∃ o, A = some ⟨k, o, none⟩
def IsText (A : Option Addr) (xs : List Int) (v : Value) (w : World) : Prop := ∃ A' cap, v = .slice A' xs.length cap ∧ ByteRow w (inA A) A' xs
def textN (bs : List Int) (pos : Nat) : Nat := (spell64 ((bs.drop pos).take 4)).toNat
def textC (bs : List Int) (pos : Nat) : Int := if countC bs pos 65536 ≠ 0 then countC bs pos 65536 else if bs.length - (pos + 4) < textN bs pos then 21 else 0
def textX (bs : List Int) (pos : Nat) : List Int := (bs.drop (pos + 4)).take (textN bs pos)
theorem Bytes8.part {bs : List Int} (h : Bytes8 bs) (a b : Nat) : Bytes8 ((bs.drop a).take b) := fun x hx => h x (List.mem_of_mem_drop (List.mem_of_mem_take hx))
theorem countC_ok {bs : List Int} {pos : Nat} {most : Int} (h : countC bs pos most = 0) : 4 ≤ bs.length - pos ∧ spell64 ((bs.drop pos).take 4) ≤ most := by
  unfold countC at h
  split at h
  · cases h
  · split at h
    · cases h
    · omega
/-- What 'next' answers: what is read, or the zero value, and the error, and where. -/
def NextOut (w : World) (g : Nat) (A : Option Addr) (bs : List Int) (V : Value → World → Prop) (pos' : Nat) (z : Value) (s : ByteArray) (pos : Nat) (c : Int) (e : Ending) (w' : World) : Prop :=
  (c = 0 ∧ ∃ v, e = .returned v ∧ V v w' ∧ ReaderAt w' g A bs pos' none ∧ Fr (fun k => k = g) w w') ∨
  (c ≠ 0 ∧ e = .returned z ∧ (∃ p, ReaderAt w' g A bs p (some ([(s, (pos : Int))], c))) ∧ Fr (fun k => k = g) w w')
theorem ReaderAt.wrong {w : World} {g : Nat} {A : Option Addr} {bs : List Int} {pos : Nat} (h : ReaderAt w g A bs pos none) (err : Option (List (ByteArray × Int) × Int)) : ReaderAt (w.setCell ⟨g, 2, none⟩ (errO err)) g A bs pos err := by
  obtain ⟨A', cap, h1, h2, hb⟩ := h.blk
  exact ⟨⟨A', cap, h1, h2, hb.set_ 2 (errO err)⟩, h.row.fr ((Fr.refl (fun k => k = g) w).setCell (p := ⟨g, 2, none⟩) (fun _ => rfl) _) (fun k ⟨o, e⟩ => h.ne k o e), h.le, h.ne, fun k o e => by simpa using h.alt k o e⟩
theorem next_bad_Int {w : World} {g : Nat} {A : Option Addr} {bs : List Int} {pos : Nat} {er : List (ByteArray × Int) × Int} (h : ReaderAt w g A bs pos (some er)) (s : ByteArray) (f : Value) :
    Calls Try.prog 45 #[.pointer (some ⟨g, 0, none⟩), .string s, f] w fun e w' => e = .returned (.int .i64 0) ∧ w = w' := by
  obtain ⟨A', cap, _, _, hb⟩ := h.blk
  obtain ⟨t, u, hu⟩ := errO_some er
  have c2 : w.cell? ⟨g, 2, none⟩ = some (.iface t u) := by rw [← hu]; exact hb.cell 2
  clear hb
  go_enter Try.func45, Try.ntmps45
  go_wp2
  go_ret
  exact ⟨rfl, rfl⟩
set_option maxRecDepth 100000 in
theorem next_Int {w : World} {g : Nat} {A : Option Addr} {bs : List Int} {pos pos' : Nat} {V : Value → World → Prop} {Z : Value → Prop} {c : Int} (h : ReaderAt w g A bs pos none) (s : ByteArray) (b1 b2 : Nat)
    (hof : Calls Try.prog 46 (#[] ++ #[.pointer (some ⟨b1, 0, none⟩), .pointer (some ⟨b2, 0, none⟩)]) w (ReadOut w g A bs V Z pos' c)) :
    Calls Try.prog 45 #[.pointer (some ⟨g, 0, none⟩), .string s, .func (.func 46) #[] #[.pointer (some ⟨b1, 0, none⟩), .pointer (some ⟨b2, 0, none⟩)]] w (NextOut w g A bs V pos' (.int .i64 0) s pos c) := by
  obtain ⟨A', cap, _, _, hb⟩ := h.blk
  have c1 : w.cell? ⟨g, 1, none⟩ = some (.int .i64 pos) := hb.cell 1
  have c2 : w.cell? ⟨g, 2, none⟩ = some .nilIface := hb.cell 2
  clear hb
  go_enter Try.func45, Try.ntmps45
  go_wp2_with fail
  refine hof.mono ?_
  rintro e w1 ⟨v, p, rfl, hv, _, h1, hf1⟩
  by_cases hc : c = 0
  · subst hc
    obtain ⟨hv1, rfl⟩ := hv rfl
    go_wp2
    go_ret
    exact .inl ⟨rfl, v, rfl, hv1, h1, hf1⟩
  · have hc1 : (c != 0) = true := by simpa using hc
    have hc2 : (c == 0) = false := by simpa using hc
    have HC := Lib.hid hc
    obtain ⟨A2, cap2, _, _, hb2⟩ := h1.blk
    have z2 := hb2.frozen 2
    have d2 : w1.cell? ⟨g, 2, none⟩ = some .nilIface := hb2.cell 2
    obtain ⟨t, u, hu⟩ := errV_iface [(s, (pos : Int))] c
    have HU : Hid (errO (some ([(s, (pos : Int))], c)) = .iface t u) := hu
    clear hc hv hb2
    go_wp2_with (first
      | (go_at_call 22; refine (fault_Of c hc2 _).mono ?_; rintro e w' ⟨rfl, rfl⟩)
      | (go_at_call 21; refine (fault_Wrap [] c _ _ _).mono ?_; rintro e w' ⟨rfl, rfl⟩; rw [hu]))
    go_ret
    refine .inr ⟨HC.out, rfl, ⟨p, ?_⟩, hf1.setCell (p := ⟨g, 2, none⟩) (fun _ => rfl) _⟩
    rw [← HU.out]
    exact h1.wrong _
theorem next_bad_Nums {w : World} {g : Nat} {A : Option Addr} {bs : List Int} {pos : Nat} {er : List (ByteArray × Int) × Int} (h : ReaderAt w g A bs pos (some er)) (s : ByteArray) (f : Value) :
    Calls Try.prog 48 #[.pointer (some ⟨g, 0, none⟩), .string s, f] w fun e w' => e = .returned (.slice none 0 0) ∧ w = w' := by
  obtain ⟨A', cap, _, _, hb⟩ := h.blk
  obtain ⟨t, u, hu⟩ := errO_some er
  have c2 : w.cell? ⟨g, 2, none⟩ = some (.iface t u) := by rw [← hu]; exact hb.cell 2
  clear hb
  go_enter Try.func48, Try.ntmps48
  go_wp2
  go_ret
  exact ⟨rfl, rfl⟩
set_option maxRecDepth 100000 in
theorem next_Nums {w : World} {g : Nat} {A : Option Addr} {bs : List Int} {pos pos' : Nat} {V : Value → World → Prop} {Z : Value → Prop} {c : Int} (h : ReaderAt w g A bs pos none) (s : ByteArray) (b1 b2 : Nat)
    (hof : Calls Try.prog 53 (#[] ++ #[.pointer (some ⟨b1, 0, none⟩), .pointer (some ⟨b2, 0, none⟩)]) w (ReadOut w g A bs V Z pos' c)) :
    Calls Try.prog 48 #[.pointer (some ⟨g, 0, none⟩), .string s, .func (.func 53) #[] #[.pointer (some ⟨b1, 0, none⟩), .pointer (some ⟨b2, 0, none⟩)]] w (NextOut w g A bs V pos' (.slice none 0 0) s pos c) := by
  obtain ⟨A', cap, _, _, hb⟩ := h.blk
  have c1 : w.cell? ⟨g, 1, none⟩ = some (.int .i64 pos) := hb.cell 1
  have c2 : w.cell? ⟨g, 2, none⟩ = some .nilIface := hb.cell 2
  clear hb
  go_enter Try.func48, Try.ntmps48
  go_wp2_with fail
  refine hof.mono ?_
  rintro e w1 ⟨v, p, rfl, hv, _, h1, hf1⟩
  by_cases hc : c = 0
  · subst hc
    obtain ⟨hv1, rfl⟩ := hv rfl
    go_wp2
    go_ret
    exact .inl ⟨rfl, v, rfl, hv1, h1, hf1⟩
  · have hc1 : (c != 0) = true := by simpa using hc
    have hc2 : (c == 0) = false := by simpa using hc
    have HC := Lib.hid hc
    obtain ⟨A2, cap2, _, _, hb2⟩ := h1.blk
    have z2 := hb2.frozen 2
    have d2 : w1.cell? ⟨g, 2, none⟩ = some .nilIface := hb2.cell 2
    obtain ⟨t, u, hu⟩ := errV_iface [(s, (pos : Int))] c
    have HU : Hid (errO (some ([(s, (pos : Int))], c)) = .iface t u) := hu
    clear hc hv hb2
    go_wp2_with (first
      | (go_at_call 22; refine (fault_Of c hc2 _).mono ?_; rintro e w' ⟨rfl, rfl⟩)
      | (go_at_call 21; refine (fault_Wrap [] c _ _ _).mono ?_; rintro e w' ⟨rfl, rfl⟩; rw [hu]))
    go_ret
    refine .inr ⟨HC.out, rfl, ⟨p, ?_⟩, hf1.setCell (p := ⟨g, 2, none⟩) (fun _ => rfl) _⟩
    rw [← HU.out]
    exact h1.wrong _
end Go.Proofs.Ytjnmfaaegbkmhaa
