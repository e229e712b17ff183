/- wire: the Reader's Int, Num, Text and End. -/
import Derived.Test.YtkbcobbnjiekfaaDoorReadT
namespace Go.Proofs.YtkbcobbnjiekfaaDoor
open Go Go.RowKit
/-- What a Reader's function answers, whatever was wrong before. -/
def Rd (w : World) (g : Nat) (A : Option Addr) (bs : List Int) (V : Value → World → Prop) (pos' : Nat) (z : Value) (s : ByteArray) (pos : Nat) (c : Int) (err : Option (List (ByteArray × Int) × Int)) (e : Ending) (w' : World) : Prop :=
  match err with
  | none => NextOut w g A bs V pos' z s pos c e w'
  | some er => e = .returned z ∧ ReaderAt w' g A bs pos (some er) ∧ Fr (fun _ => False) w w'
theorem NextOut.before {w w1 w' : World} {g : Nat} {A : Option Addr} {bs : List Int} {V : Value → World → Prop} {pos' : Nat} {z : Value} {s : ByteArray} {pos : Nat} {c : Int} {e : Ending} (h : NextOut w1 g A bs V pos' z s pos c e w') (hf : Fr (fun _ => False) w w1) : NextOut w g A bs V pos' z s pos c e w' := by
  have hf1 : Fr (fun k => k = g) w w1 := hf.mono (fun _ _ hx => hx.elim)
  rcases h with ⟨h1, v, h2, h3, h4, h5⟩ | ⟨h1, h2, h3, h4⟩
  · exact .inl ⟨h1, v, h2, h3, h4, hf1.trans h5 (fun _ _ h => h)⟩
  · exact .inr ⟨h1, h2, h3, hf1.trans h4 (fun _ _ h => h)⟩
theorem NextOut.ending {w w' : World} {g : Nat} {A : Option Addr} {bs : List Int} {V : Value → World → Prop} {pos' : Nat} {z : Value} {s : ByteArray} {pos : Nat} {c : Int} {e : Ending} (h : NextOut w g A bs V pos' z s pos c e w') : ∃ v, e = .returned v ∧ NextOut w g A bs V pos' z s pos c (.returned v) w' := by
  rcases h with ⟨h1, v, rfl, h3, h4, h5⟩ | ⟨h1, rfl, h3, h4⟩
  · exact ⟨v, rfl, .inl ⟨h1, v, rfl, h3, h4, h5⟩⟩
  · exact ⟨z, rfl, .inr ⟨h1, rfl, h3, h4⟩⟩
def numC (bs : List Int) (pos : Nat) : Int := if bs.length - pos < 8 then 21 else 0
def numX (bs : List Int) (pos : Nat) : Int := spell64 ((bs.drop pos).take 8)
def intC (bs : List Int) (pos : Nat) (most : Int) : Int := if numC bs pos ≠ 0 then numC bs pos else if numX bs pos < 0 then 23 else if numX bs pos > most then 2 else 0
set_option maxRecDepth 100000 in
theorem reader_Int1 {w : World} {g : Nat} {A : Option Addr} {bs : List Int} {pos : Nat} (h : ReaderAt w g A bs pos none) (hl : bs.length ≤ 1099511627776) (b1 b2 : Nat) (most : Int) (hx : w.cell? ⟨b1, 0, none⟩ = some (.pointer (some ⟨g, 0, none⟩))) (hy : w.cell? ⟨b2, 0, none⟩ = some (.int .i64 most)) (hg : b2 ≠ g) :
    Calls Tryd.prog 40 #[.pointer (some ⟨b1, 0, none⟩), .pointer (some ⟨b2, 0, none⟩)] w (ReadOut w g A bs (IsInt (numX bs pos)) (fun _ => True) (pos + 8) (intC bs pos most)) := by
  go_enter Tryd.func40, Tryd.ntmps40
  go_wp2_with fail
  refine (reader_number h hl).mono ?_
  rintro e w1 ⟨v, p, rfl, hv, _, h1, hf1⟩
  have hy1 := hf1.cell_some hy hg
  have HN : Hid (numC bs pos = if bs.length - pos < 8 then 21 else 0) := rfl
  have hn : (if bs.length - pos < 8 then (21 : Int) else 0) = numC bs pos := rfl
  rw [hn] at hv ⊢
  by_cases hc : numC bs pos = 0
  · obtain ⟨hv1, rfl⟩ := hv hc
    obtain rfl : v = .int .i64 (numX bs pos) := hv1
    rw [hc]
    have HC : Hid (intC bs pos most = if numX bs pos < 0 then 23 else if numX bs pos > most then 2 else 0) := by show _ = _; rw [intC, if_neg (by simp [hc])]
    clear hv hc hn
    by_cases h0 : numX bs pos < 0
    · have HC2 : Hid (intC bs pos most = 23) := by show _ = _; rw [HC.out, if_pos h0]
      go_wp2
      refine bodyPost_ret (v := .tuple #[.int .i64 (numX bs pos), .int .i64 23]) (by simp [results, Tryd.results40, go_sem]) rfl ?_
      exact ⟨_, pos + 8, by rw [HC2.out], (fun h => by rw [HC2.out] at h; cases h), fun _ => trivial, h1, hf1⟩
    · by_cases h2 : numX bs pos > most
      · have HC2 : Hid (intC bs pos most = 2) := by show _ = _; rw [HC.out, if_neg h0, if_pos h2]
        go_wp2
        refine bodyPost_ret (v := .tuple #[.int .i64 (numX bs pos), .int .i64 2]) (by simp [results, Tryd.results40, go_sem]) rfl ?_
        exact ⟨_, pos + 8, by rw [HC2.out], (fun h => by rw [HC2.out] at h; cases h), fun _ => trivial, h1, hf1⟩
      · have HC2 : Hid (intC bs pos most = 0) := by show _ = _; rw [HC.out, if_neg h0, if_neg h2]
        go_wp2
        refine bodyPost_ret (v := .tuple #[.int .i64 (numX bs pos), .int .i64 0]) (by simp [results, Tryd.results40, go_sem]) rfl ?_
        exact ⟨_, pos + 8, by rw [HC2.out], (fun _ => ⟨rfl, rfl⟩), fun _ => trivial, h1, hf1⟩
  · have hc1 : (numC bs pos != 0) = true := by simpa using hc
    have HC : Hid (intC bs pos most = numC bs pos) := by show _ = _; rw [intC, if_pos hc]
    have HZ := Lib.hid hc
    clear hv hc hn
    go_wp2
    refine bodyPost_ret (v := .tuple #[v, .int .i64 (numC bs pos)]) (by simp [results, Tryd.results40, go_sem]) rfl ?_
    exact ⟨v, p, by rw [HC.out], (fun h => absurd (HC.out ▸ h) HZ.out), fun _ => trivial, h1, hf1⟩
set_option maxRecDepth 100000 in
theorem reader_Int {w : World} {g : Nat} {A : Option Addr} {bs : List Int} {pos : Nat} {err : Option (List (ByteArray × Int) × Int)} (h : ReaderAt w g A bs pos err) (hl : bs.length ≤ 1099511627776) (most : Int) :
    Calls Tryd.prog 13 #[.pointer (some ⟨g, 0, none⟩), .int .i64 most] w (Rd w g A bs (IsInt (numX bs pos)) (pos + 8) (.int .i64 0) (⟨#[105, 110, 116]⟩ : ByteArray) pos (intC bs pos most) err) := by
  have hf0 : Fr (fun _ => False) w ((w.alloc (Obj.cells #[.pointer (some ⟨g, 0, none⟩)] 32)).alloc (Obj.cells #[.int .i64 most] 3)) := ((Fr.refl _ _).alloc _).alloc _
  have h1 := h.fr hf0 id (fun _ _ _ => id)
  have hx : ((w.alloc (Obj.cells #[.pointer (some ⟨g, 0, none⟩)] 32)).alloc (Obj.cells #[.int .i64 most] 3)).cell? ⟨w.heap.size, 0, none⟩ = some (.pointer (some ⟨g, 0, none⟩)) := ((Blk.new w 32 #[.pointer (some ⟨g, 0, none⟩)]).alloc _).cell 0
  have hy : ((w.alloc (Obj.cells #[.pointer (some ⟨g, 0, none⟩)] 32)).alloc (Obj.cells #[.int .i64 most] 3)).cell? ⟨w.heap.size + 1, 0, none⟩ = some (.int .i64 most) := (Blk.new_ (w.alloc (Obj.cells #[.pointer (some ⟨g, 0, none⟩)] 32)) 3 #[.int .i64 most] (n := w.heap.size + 1) (by simp)).cell 0
  have hg : w.heap.size + 1 ≠ g := by
    obtain ⟨_, _, _, _, hb⟩ := h.blk
    have := hb.lt
    omega
  cases err with
  | some er =>
    go_enter Tryd.func13, Tryd.ntmps13
    go_wp2_with fail
    refine (next_bad_Int h1 _ _).mono ?_
    rintro e w1 ⟨rfl, rfl⟩
    go_wp2
    go_ret
    exact ⟨rfl, h1, hf0⟩
  | none =>
    go_enter Tryd.func13, Tryd.ntmps13
    go_wp2_with fail
    refine (next_Int h1 (⟨#[105, 110, 116]⟩ : ByteArray) w.heap.size (w.heap.size + 1) (reader_Int1 h1 hl _ _ most hx hy hg)).mono ?_
    intro e w1 hn
    obtain ⟨v, rfl, hn1⟩ := (hn.before hf0).ending
    clear hn
    go_wp2
    go_ret
    exact hn1
theorem reader_Num {w : World} {g : Nat} {A : Option Addr} {bs : List Int} {pos : Nat} {err : Option (List (ByteArray × Int) × Int)} (h : ReaderAt w g A bs pos err) (hl : bs.length ≤ 1099511627776) (h8 : Bytes8 bs) :
    Calls Tryd.prog 20 #[.pointer (some ⟨g, 0, none⟩)] w (Rd w g A bs (IsInt (numX bs pos)) (pos + 8) (.int .i64 0) (⟨#[110, 117, 109]⟩ : ByteArray) pos (numC bs pos) err) := by
  cases err with
  | some er =>
    go_enter Tryd.func20, Tryd.ntmps20
    go_wp2_with fail
    refine (next_bad_Num h _ _).mono ?_
    rintro e w1 ⟨rfl, rfl⟩
    go_wp2
    go_ret
    exact ⟨rfl, h, Fr.refl _ _⟩
  | none =>
    go_enter Tryd.func20, Tryd.ntmps20
    go_wp2_with fail
    refine (next_Num h (⟨#[110, 117, 109]⟩ : ByteArray) g (reader_number h hl)).mono ?_
    intro e w1 hn
    obtain ⟨v, rfl, hn1⟩ := hn.ending
    clear hn
    go_wp2
    go_ret
    exact hn1
theorem reader_Text {w : World} {g : Nat} {A : Option Addr} {bs : List Int} {pos : Nat} {err : Option (List (ByteArray × Int) × Int)} (h : ReaderAt w g A bs pos err) (hl : bs.length ≤ 1099511627776) (h8 : Bytes8 bs) :
    Calls Tryd.prog 21 #[.pointer (some ⟨g, 0, none⟩)] w (Rd w g A bs (IsText A (textX bs pos)) (pos + 4 + textN bs pos) (.slice none 0 0) (⟨#[116, 101, 120, 116]⟩ : ByteArray) pos (textC bs pos) err) := by
  cases err with
  | some er =>
    go_enter Tryd.func21, Tryd.ntmps21
    go_wp2_with fail
    refine (next_bad_Text h _ _).mono ?_
    rintro e w1 ⟨rfl, rfl⟩
    go_wp2
    go_ret
    exact ⟨rfl, h, Fr.refl _ _⟩
  | none =>
    go_enter Tryd.func21, Tryd.ntmps21
    go_wp2_with fail
    refine (next_Text h (⟨#[116, 101, 120, 116]⟩ : ByteArray) g (reader_text h hl h8)).mono ?_
    intro e w1 hn
    obtain ⟨v, rfl, hn1⟩ := hn.ending
    clear hn
    go_wp2
    go_ret
    exact hn1
/-- What the End of a reader is. -/
def endE (bs : List Int) (pos : Nat) (err : Option (List (ByteArray × Int) × Int)) : Option (List (ByteArray × Int) × Int) :=
  match err with
  | some er => some er
  | none => if pos < bs.length then some ([((⟨#[101, 110, 100]⟩ : ByteArray), (pos : Int))], 22) else none
def Ended (w : World) (bs : List Int) (pos : Nat) (err : Option (List (ByteArray × Int) × Int)) (e : Ending) (w' : World) : Prop := e = .returned (errO (endE bs pos err)) ∧ Fr (fun _ => False) w w'
set_option maxRecDepth 100000 in
theorem reader_End {w : World} {g : Nat} {A : Option Addr} {bs : List Int} {pos : Nat} {err : Option (List (ByteArray × Int) × Int)} (h : ReaderAt w g A bs pos err) (hl : bs.length ≤ 1099511627776) :
    Calls Tryd.prog 14 #[.pointer (some ⟨g, 0, none⟩)] w (Ended w bs pos err) := by
  obtain ⟨A', cap, _, _, hb⟩ := h.blk
  have c0 : w.cell? ⟨g, 0, none⟩ = some (.slice A' (bs.length - pos) cap) := hb.cell 0
  have c1 : w.cell? ⟨g, 1, none⟩ = some (.int .i64 pos) := hb.cell 1
  cases err with
  | some er =>
    obtain ⟨t, u, hu⟩ := errO_some er
    have HU : Hid (errO (endE bs pos (some er)) = .iface t u) := hu
    have c2 : w.cell? ⟨g, 2, none⟩ = some (.iface t u) := by rw [← hu]; exact hb.cell 2
    clear hb hu
    go_enter Tryd.func14, Tryd.ntmps14
    go_wp2
    go_ret
    exact ⟨by rw [HU.out]; rfl, Fr.refl _ _⟩
  | none =>
    have c2 : w.cell? ⟨g, 2, none⟩ = some .nilIface := hb.cell 2
    clear hb
    by_cases hp : pos < bs.length
    · have hp1 : ((bs.length - pos : Nat) : Int) > 0 := by omega
      have HE : Hid (endE bs pos none = some ([((⟨#[101, 110, 100]⟩ : ByteArray), (pos : Int))], 22)) := by show _ = _; rw [endE, if_pos hp]
      go_enter Tryd.func14, Tryd.ntmps14
      go_wp2_with fail
      go_quiet ((first | (go_at_call 43; exact quiet_left (fault_Of 22 rfl _)) | (go_at_call 42; exact quiet_left (fault_Wrap _ _ _ _ _))))
      go_wp2
      go_ret
      exact ⟨by rw [HE.out]; rfl, (Fr.refl _ _).drewN _⟩
    · have hp1 : ¬ ((bs.length - pos : Nat) : Int) > 0 := by omega
      have HE : Hid (endE bs pos none = none) := by show _ = _; rw [endE, if_neg hp]
      go_enter Tryd.func14, Tryd.ntmps14
      go_wp2
      go_ret
      exact ⟨by rw [HE.out]; rfl, Fr.refl _ _⟩
end Go.Proofs.YtkbcobbnjiekfaaDoor
