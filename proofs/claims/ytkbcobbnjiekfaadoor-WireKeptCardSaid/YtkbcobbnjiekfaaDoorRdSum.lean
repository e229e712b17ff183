/- What is read, summed up: codes, errors of one step. -/
import Derived.Test.YtkbcobbnjiekfaaDoorBack
import Derived.Test.YtkbcobbnjiekfaaDoorTextG
import Derived.Test.YtkbcobbnjiekfaaDoorCode
namespace Go.Proofs.YtkbcobbnjiekfaaDoor
open Go Go.RowKit
abbrev ErrD := Option (List (ByteArray × Int) × Int)
/-- The numbers of what a reader finds wrong. -/
def CodeIn (c : Int) : Prop := c = 0 ∨ c = 21 ∨ c = 2 ∨ c = 23
theorem countC_in (bs : List Int) (p : Nat) (m : Int) : CodeIn (countC bs p m) := by
  unfold countC CodeIn
  split
  · simp
  · split <;> simp
theorem numC_in (bs : List Int) (p : Nat) : CodeIn (numC bs p) := by
  unfold numC CodeIn
  split <;> simp
theorem intC_in (bs : List Int) (p : Nat) (m : Int) : CodeIn (intC bs p m) := by
  unfold intC
  split
  · exact numC_in _ _
  · unfold CodeIn
    split
    · simp
    · split <;> simp
theorem textC_in (bs : List Int) (p : Nat) : CodeIn (textC bs p) := by
  unfold textC
  split
  · exact countC_in _ _ _
  · unfold CodeIn
    split <;> simp
theorem rowRun_in {α : Type} {X : Nat → α} {C : Nat → Int} {N : Nat → Nat} (hC : ∀ p, CodeIn (C p)) : ∀ n p, CodeIn (rowRun X C N n p).2.2
  | 0, _ => .inl rfl
  | n + 1, p => by
    unfold rowRun
    split
    · exact hC p
    · exact rowRun_in hC n (N p)
theorem numsC_in (bs : List Int) (p : Nat) : CodeIn (numsC bs p) := by
  unfold numsC
  split
  · exact countC_in _ _ _
  · exact rowRun_in (numC_in bs) _ _
theorem listC_in (bs : List Int) (p : Nat) : CodeIn (listC bs p) := by
  unfold listC
  split
  · exact countC_in _ _ _
  · exact rowRun_in (textC_in bs) _ _
/-- An error of one step, its text short, its number known. -/
def OkE (B : Nat) (err : ErrD) : Prop := ∀ q, err = some q → ∃ (s : ByteArray) (n : Nat), q.1 = [(s, (n : Int))] ∧ s.size ≤ 64 ∧ n ≤ B ∧ CodeIn q.2 ∧ q.2 ≠ 0
theorem OkE.none (B : Nat) : OkE B none := fun _ h => by cases h
theorem OkE.some {B : Nat} {s : ByteArray} {n : Nat} {c : Int} (hs : s.size ≤ 64) (hn : n ≤ B) (hc : CodeIn c) (h0 : c ≠ 0) : OkE B (some ([(s, (n : Int))], c)) := by
  intro q h
  cases h
  exact ⟨s, n, rfl, hs, hn, hc, h0⟩
/-- A read of a number, summed up. -/
theorem rd_num {w w' : World} {g : Nat} {A : Option Addr} {bs : List Int} {n : Int} {pos' : Nat} {s : ByteArray} {pos : Nat} {c : Int} {err : ErrD} {e : Ending} (h : Rd w g A bs (IsInt n) pos' (.int .i64 0) s pos c err e w') (hs : s.size ≤ 64) (hp : pos ≤ bs.length) (hc : CodeIn c) (hE : OkE bs.length err) :
    ∃ x err' p, e = .returned (.int .i64 x) ∧ ReaderAt w' g A bs p err' ∧ OkE bs.length err' ∧ Fr (fun k => k = g) w w' ∧ (∀ er, err = some er → x = 0 ∧ err' = some er) ∧ (err' = none → err = none ∧ c = 0 ∧ x = n ∧ p = pos') := by
  cases err with
  | some er =>
    obtain ⟨rfl, h1, h2⟩ := h
    exact ⟨0, some er, pos, rfl, h1, hE, h2.mono (fun _ _ h => h.elim), (fun _ h => ⟨rfl, h⟩), (fun h => by cases h)⟩
  | none =>
    rcases h with ⟨h0, v, rfl, rfl, h1, h2⟩ | ⟨h0, rfl, ⟨p, h1⟩, h2⟩
    · exact ⟨n, none, pos', rfl, h1, OkE.none _, h2, (fun _ h => by cases h), fun _ => ⟨rfl, h0, rfl, rfl⟩⟩
    · exact ⟨0, _, p, rfl, h1, OkE.some hs hp hc h0, h2, (fun _ h => by cases h), (fun h => by cases h)⟩
/-- A read of a row, summed up. -/
theorem rd_any {w w' : World} {g : Nat} {A : Option Addr} {bs : List Int} {V : Value → World → Prop} {pos' : Nat} {s : ByteArray} {pos : Nat} {c : Int} {err : ErrD} {e : Ending} (h : Rd w g A bs V pos' (.slice none 0 0) s pos c err e w') (hV : ∀ v w, V v w → ∃ A m cap, v = .slice A m cap) (hs : s.size ≤ 64) (hp : pos ≤ bs.length) (hc : CodeIn c) (hE : OkE bs.length err) :
    ∃ B m cap err' p, e = .returned (.slice B m cap) ∧ ReaderAt w' g A bs p err' ∧ OkE bs.length err' ∧ Fr (fun k => k = g) w w' ∧ (∀ er, err = some er → m = 0 ∧ err' = some er) ∧ (err' = none → err = none ∧ c = 0 ∧ V (.slice B m cap) w' ∧ p = pos') := by
  cases err with
  | some er =>
    obtain ⟨rfl, h1, h2⟩ := h
    exact ⟨none, 0, 0, some er, pos, rfl, h1, hE, h2.mono (fun _ _ h => h.elim), (fun _ h => ⟨rfl, h⟩), (fun h => by cases h)⟩
  | none =>
    rcases h with ⟨h0, v, rfl, hv, h1, h2⟩ | ⟨h0, rfl, ⟨p, h1⟩, h2⟩
    · obtain ⟨B, m, cap, rfl⟩ := hV v w' hv
      exact ⟨B, m, cap, none, pos', rfl, h1, OkE.none _, h2, (fun _ h => by cases h), fun _ => ⟨rfl, h0, hv, rfl⟩⟩
    · exact ⟨none, 0, 0, _, p, rfl, h1, OkE.some hs hp hc h0, h2, (fun _ h => by cases h), (fun h => by cases h)⟩
theorem isText_slice {A : Option Addr} {xs : List Int} (v : Value) (w : World) (h : IsText A xs v w) : ∃ A m cap, v = .slice A m cap := by
  obtain ⟨A1, cap, rfl, _⟩ := h
  exact ⟨_, _, _, rfl⟩
theorem isNums_slice {base : Nat} {xs : List Int} (v : Value) (w : World) (h : IsNums base xs v w) : ∃ A m cap, v = .slice A m cap := by
  obtain ⟨A1, cap, rfl, _⟩ := NumRow.of_own h
  exact ⟨_, _, _, rfl⟩
theorem isList_slice {base : Nat} {A : Option Addr} {l : List (List Int)} (v : Value) (w : World) (h : IsList base A l v w) : ∃ A m cap, v = .slice A m cap := by
  obtain ⟨A1, cap, rfl, _⟩ := TextRow.of_list h
  exact ⟨_, _, _, rfl⟩
/-- The number of an error, and its text. -/
def codeO : ErrD → Int
  | none => 0
  | some q => q.2
def textP (tb : Nat → Int) (q : List (ByteArray × Int) × Int) : ByteArray :=
  match q.1 with
  | [] => ⟨#[]⟩
  | x :: _ => textG tb x.1 x.2.toNat q.2.toNat
def textO (tb : Nat → Int) : ErrD → ByteArray
  | none => ⟨#[]⟩
  | some q => textP tb q
def CodeIn2 (c : Int) : Prop := CodeIn c ∨ c = 22
/-- Like OkE, with the error of what is left. -/
def OkE2 (B : Nat) (err : ErrD) : Prop := ∀ q, err = some q → ∃ (s : ByteArray) (n : Nat), q.1 = [(s, (n : Int))] ∧ s.size ≤ 64 ∧ n ≤ B ∧ CodeIn2 q.2 ∧ q.2 ≠ 0
theorem endE_ok {bs : List Int} {p : Nat} {err : ErrD} (hE : OkE bs.length err) (hp : p ≤ bs.length) : OkE2 bs.length (endE bs p err) := by
  intro q h
  cases err with
  | some er =>
    obtain ⟨s, n, h1, h2, h3, h4, h5⟩ := hE q h
    exact ⟨s, n, h1, h2, h3, .inl h4, h5⟩
  | none =>
    unfold endE at h
    dsimp only at h
    split at h
    · cases h
      exact ⟨(⟨#[101, 110, 100]⟩ : ByteArray), p, rfl, by decide, hp, .inr rfl, by simp⟩
    · cases h
theorem fault_CodeO {w : World} (hG : Laid w) (o : ErrD) : Calls Tryd.prog 15 #[errO o] w fun e w' => e = .returned (.int .i64 (codeO o)) ∧ Fr (fun _ => False) w w' := by
  cases o with
  | some q => exact fault_Code hG q.1 q.2
  | none =>
    show Calls Tryd.prog 15 #[.nilIface] w _
    go_enter Tryd.func15, Tryd.ntmps15
    go_wp2
    go_ret
    exact ⟨rfl, (Fr.refl _ _).alloc _⟩
theorem fault_TextO {w : World} {tb : Nat → Int} (hT : Tab w tb) {B : Nat} (hB : B < 524288) {o : ErrD} (ho : OkE2 B o) : Calls Tryd.prog 24 #[errO o] w (Texted w (textO tb o)) := by
  cases o with
  | none => exact fault_Text0 w
  | some q =>
    obtain ⟨s, n, h1, h2, h3, h4, h5⟩ := ho q rfl
    obtain ⟨l, c⟩ := q
    obtain rfl : l = [(s, (n : Int))] := h1
    obtain ⟨k, hk, hk2⟩ : ∃ k : Nat, c = (k : Int) ∧ k < 100 := by
      unfold CodeIn2 CodeIn at h4
      dsimp only at h4
      rcases h4 with (h | h | h | h) | h
      · exact ⟨0, h, by omega⟩
      · exact ⟨21, h, by omega⟩
      · exact ⟨2, h, by omega⟩
      · exact ⟨23, h, by omega⟩
      · exact ⟨22, h, by omega⟩
    subst hk
    exact fault_TextG hT s n k h2 (by omega) hk2
end Go.Proofs.YtkbcobbnjiekfaaDoor
