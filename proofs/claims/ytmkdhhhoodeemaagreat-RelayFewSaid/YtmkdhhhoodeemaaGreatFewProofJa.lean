/- RelayFewSaid: for every input the law returns true, and each argument reads behind the call as it read before. No condition. -/
import Derived.Deep.RegionHeldLaw
import Derived.Deep.MidRow
import Derived.Laws.Tables
import Derived.BigQuiet
import Derived.Lib.SlKept
import Derived.Lib.SmallJoins
import Derived.Test.YtmkdhhhoodeemaaGreatFewProofGa
import Derived.Test.YtmkdhhhoodeemaaGreatFewProofGb
import Derived.Test.YtmkdhhhoodeemaaGreatFewProofGc
import Derived.Test.YtmkdhhhoodeemaaGreatFewProofGd
import Derived.Test.YtmkdhhhoodeemaaGreatFewProofGe
import Derived.Test.YtmkdhhhoodeemaaGreatFewProofGf
import Derived.Test.YtmkdhhhoodeemaaGreatFewProofGg
set_option linter.unusedVariables false
set_option linter.unusedSimpArgs false
/- cohortref02: the Reader, where it reads what was written. -/
namespace Go.Proofs.YtmkdhhhoodeemaaGreat
open Go Go.RowKit
/-- The document's reader at g, without an error. -/
structure RR (w : World) (g b o cap : Nat) (bs : List Int) (pos : Nat) : Prop where
  blk : Blk w g 131 #[.slice (some ⟨b, o, none⟩) bs.length cap, .int .i64 pos, .int .i64 0, .string ⟨#[]⟩, .int .i64 0]
  row : ByteRow w (U8 w) (some ⟨b, o, none⟩) bs
  cap_ : bs.length ≤ cap
  le : pos ≤ bs.length
theorem RR.fr {S : Nat → Prop} {w w' : World} {g b o cap : Nat} {bs : List Int} {pos : Nat} (h : RR w g b o cap bs pos) (hf : Fr S w w') (hg : ¬ S g) (h8 : ∀ k, U8 w k → ¬ S k) : RR w' g b o cap bs pos :=
  ⟨h.blk.fr hf hg, h.row.u8 hf h8, h.cap_, h.le⟩
theorem RR.keep {w w' : World} {g b o cap : Nat} {bs : List Int} {pos : Nat} (h : RR w g b o cap bs pos) (hf : Fr (fun _ => False) w w') : RR w' g b o cap bs pos := h.fr hf id (fun _ _ => id)
theorem RR.part {w : World} {g b o cap : Nat} {bs : List Int} {pos : Nat} (h : RR w g b o cap bs pos) (n : Nat) : ByteRow w (U8 w) (some ⟨b, o + pos, none⟩) ((bs.drop pos).take n) := by
  intro k x hx
  rw [List.getElem?_take] at hx
  split at hx
  · rw [List.getElem?_drop] at hx
    obtain ⟨b', o', e, h1, h2⟩ := h.row (pos + k) x hx
    cases e
    exact ⟨b, o + pos, rfl, h1, by rw [Nat.add_assoc]; exact h2⟩
  · cases hx
end Go.Proofs.YtmkdhhhoodeemaaGreat

/- cohortref02: New, num, length: where they read what was written. -/
namespace Go.Proofs.YtmkdhhhoodeemaaGreat
open Go Go.RowKit
end Go.Proofs.YtmkdhhhoodeemaaGreat

/- The document's Reader, by what is left of the bytes. -/
namespace Go.Proofs.YtmkdhhhoodeemaaGreat
open Go Go.RowKit
/-- The document's reader at g, without an error, has s left. -/
def RS (w : World) (g : Nat) (s : List Int) : Prop := ∃ b o cap bs pos, RR w g b o cap bs pos ∧ bs.drop pos = s ∧ bs.length ≤ 1099511627776
theorem RS.fr {S : Nat → Prop} {w w' : World} {g : Nat} {s : List Int} (h : RS w g s) (hf : Fr S w w') (hg : ¬ S g) (h8 : ∀ k, U8 w k → ¬ S k) : RS w' g s := by
  obtain ⟨b, o, cap, bs, pos, h1, h2, h3⟩ := h
  exact ⟨b, o, cap, bs, pos, h1.fr hf hg h8, h2, h3⟩
theorem RS.keep {w w' : World} {g : Nat} {s : List Int} (h : RS w g s) (hf : Fr (fun _ => False) w w') : RS w' g s := h.fr hf id (fun _ _ => id)
theorem RS.blk {w : World} {g : Nat} {s : List Int} (h : RS w g s) : ∃ cs, Blk w g 131 cs := by
  obtain ⟨b, o, cap, bs, pos, h1, h2, h3⟩ := h
  exact ⟨_, h1.blk⟩
theorem RS.lt {w : World} {g : Nat} {s : List Int} (h : RS w g s) : g < w.heap.size := by
  obtain ⟨cs, hB⟩ := h.blk
  exact hB.lt
theorem RS.e {w : World} {g : Nat} {s : List Int} (h : RS w g s) : w.cell? ⟨g, 2, none⟩ = some (.int .i64 0) := by
  obtain ⟨b, o, cap, bs, pos, h1, h2, h3⟩ := h
  exact h1.blk.cell 2
theorem RS.ne {w : World} {g x : Nat} {s : List Int} {t : TypeId} {cs : Array Value} (h : RS w g s) (hB : Blk w x t cs) (ht : 131 ≠ t) : ¬ x = g := by
  obtain ⟨ds, hD⟩ := h.blk
  exact fun e => hD.ne_ hB ht e.symm
theorem RS.far {w : World} {g : Nat} {s : List Int} (h : RS w g s) {x : Nat} {t : TypeId} {cs : Array Value} (hB : Blk w x t cs) (ht : 5 ≠ t) (hr : 131 ≠ t) (i : Nat) (u : Value) : RS (w.setCell ⟨x, i, none⟩ u) g s :=
  h.fr ((Fr.refl (fun k => k = x) w).setCell (p := ⟨x, i, none⟩) (fun _ => rfl) u) (fun e => h.ne hB hr e.symm) (fun k hk e => hk.ne_blk hB ht e)
theorem RS.own {w w' : World} {g base n size : Nat} {s : List Int} {e : TypeId} {v : Value} {xs : List Value} (h : RS w g s) (ho : w.ownsRow base e size v n xs) (h8 : e ≠ 5) (hr : e ≠ 131) (hf : Fr (fun k => v.ownBlock = some k) w w') : RS w' g s := by
  obtain ⟨ds, hD⟩ := h.blk
  exact h.fr hf (own_ne_blk ho hD hr) (fun k hk => hk.ne_own ho h8)
end Go.Proofs.YtmkdhhhoodeemaaGreat

/- cohortref10: Get of a transaction's bytes. -/
namespace Go.Proofs.YtmkdhhhoodeemaaGreat
open Go Go.RowKit
theorem read_info : (Tryz.prog.info? 143).map (fun i => (i.zero, i.size, i.bytes)) = some (some (.agg #[.string ⟨#[]⟩, .int .i64 0]), 2, 24) := by kernel_rfl
theorem write_info : (Tryz.prog.info? 84).map (fun i => (i.zero, i.size, i.bytes)) = some (some (.agg #[.string ⟨#[]⟩, .string ⟨#[]⟩]), 2, 32) := by kernel_rfl
def readsV (R : List (ByteArray × Int)) : List Value := R.flatMap fun x => [.string x.1, .int .i64 x.2]
def writesV (W : List (ByteArray × ByteArray)) : List Value := W.flatMap fun x => [.string x.1, .string x.2]
theorem pairs_at {α : Type} {f g : α → Value} : ∀ {l : List α} {k : Nat} {x : α}, l[k]? = some x → (l.flatMap fun x => [f x, g x])[k * 2]? = some (f x) ∧ (l.flatMap fun x => [f x, g x])[k * 2 + 1]? = some (g x)
  | [], k, x, h => by simp at h
  | y :: l, 0, x, h => by simp at h; subst h; exact ⟨rfl, rfl⟩
  | y :: l, k + 1, x, h => by
    have h' : l[k]? = some x := by simpa using h
    obtain ⟨h1, h2⟩ := pairs_at (f := f) (g := g) h'
    rw [List.flatMap_cons]
    refine ⟨?_, ?_⟩
    · rw [show (k + 1) * 2 = k * 2 + 2 by omega]; simpa using h1
    · rw [show (k + 1) * 2 + 1 = (k * 2 + 1) + 2 by omega]; simpa using h2
theorem own_reads {w : World} {base : Nat} {v : Value} {R : List (ByteArray × Int)} (h : w.ownsRow base 143 2 v R.length (readsV R)) : ∃ A c, v = .slice A R.length c ∧ ReadRow w (fun k => base ≤ k) A R := by
  obtain ⟨A, c, rfl, _, hat⟩ := own_form h
  refine ⟨A, c, rfl, fun k x hx => ?_⟩
  obtain ⟨h1, h2⟩ := pairs_at (f := fun x => .string x.1) (g := fun x => .int .i64 x.2) hx
  obtain ⟨b, rfl, hb, c1⟩ := hat _ _ h1
  obtain ⟨b', he, _, c2⟩ := hat _ _ h2
  cases he
  exact ⟨b, 0, rfl, hb, by rw [Nat.zero_add]; exact c1, by rw [Nat.zero_add]; exact c2⟩
theorem own_writes {w : World} {base : Nat} {v : Value} {W : List (ByteArray × ByteArray)} (h : w.ownsRow base 84 2 v W.length (writesV W)) : ∃ A c, v = .slice A W.length c ∧ WriteRow w (fun k => base ≤ k) A W := by
  obtain ⟨A, c, rfl, _, hat⟩ := own_form h
  refine ⟨A, c, rfl, fun k x hx => ?_⟩
  obtain ⟨h1, h2⟩ := pairs_at (f := fun x => .string x.1) (g := fun x => .string x.2) hx
  obtain ⟨b, rfl, hb, c1⟩ := hat _ _ h1
  obtain ⟨b', he, _, c2⟩ := hat _ _ h2
  cases he
  exact ⟨b, 0, rfl, hb, by rw [Nat.zero_add]; exact c1, by rw [Nat.zero_add]; exact c2⟩
theorem ReadRow.mono_ {w : World} {F F' : Nat → Prop} {A : Option Addr} {l : List (ByteArray × Int)} (h : ReadRow w F A l) (hF : ∀ k, F k → F' k) : ReadRow w F' A l := fun k x hx => by
  obtain ⟨b, o, e, h1, h2⟩ := h k x hx
  exact ⟨b, o, e, hF _ h1, h2⟩
theorem WriteRow.mono_ {w : World} {F F' : Nat → Prop} {A : Option Addr} {l : List (ByteArray × ByteArray)} (h : WriteRow w F A l) (hF : ∀ k, F k → F' k) : WriteRow w F' A l := fun k x hx => by
  obtain ⟨b, o, e, h1, h2⟩ := h k x hx
  exact ⟨b, o, e, hF _ h1, h2⟩
theorem read_vers {R : List (ByteArray × Int)} (h : rises readOk R = true) : ∀ x ∈ R, 0 ≤ x.2 ∧ x.2 ≤ 1099511627776 := fun x hx => by
  have := (rises_at h x hx).2
  unfold readOk at this
  simpa using this
end Go.Proofs.YtmkdhhhoodeemaaGreat

/- cohortref11: Get of what was said. -/
namespace Go.Proofs.YtmkdhhhoodeemaaGreat
open Go Go.RowKit
end Go.Proofs.YtmkdhhhoodeemaaGreat

/- cohortref11: GetOrder of an order's bytes. -/
namespace Go.Proofs.YtmkdhhhoodeemaaGreat
open Go Go.RowKit
/-- A row of integers in blocks of which F holds. -/
def IntF (w : World) (F : Nat → Prop) (A : Option Addr) (l : List Int) : Prop := ∀ k x, l[k]? = some x → ∃ b o, A = some ⟨b, o, none⟩ ∧ F b ∧ w.cell? ⟨b, o + k, none⟩ = some (.int .i64 x)
theorem IntF.fr {S F : Nat → Prop} {w w' : World} {A : Option Addr} {l : List Int} (h : IntF w F A l) (hf : Fr S w w') (hS : ∀ k, F k → ¬ S k) : IntF w' F A l := fun k x hx => by
  obtain ⟨b, o, e, h1, h2⟩ := h k x hx
  exact ⟨b, o, e, h1, hf.cell_some h2 (hS b h1)⟩
theorem IntF.mono_ {w : World} {F F' : Nat → Prop} {A : Option Addr} {l : List Int} (h : IntF w F A l) (hF : ∀ k, F k → F' k) : IntF w F' A l := fun k x hx => by
  obtain ⟨b, o, e, h1, h2⟩ := h k x hx
  exact ⟨b, o, e, hF _ h1, h2⟩
/-- Entries in a row. -/
def EntRow (w : World) (F : Nat → Prop) (A : Option Addr) (l : List (ByteArray × ByteArray × Int)) : Prop :=
  ∀ k x, l[k]? = some x → ∃ b o, A = some ⟨b, o, none⟩ ∧ F b ∧ w.cell? ⟨b, o + k * 3, none⟩ = some (.string x.1) ∧ w.cell? ⟨b, o + k * 3 + 1, none⟩ = some (.string x.2.1) ∧ w.cell? ⟨b, o + k * 3 + 2, none⟩ = some (.int .i64 x.2.2)
theorem EntRow.fr {S F : Nat → Prop} {w w' : World} {A : Option Addr} {l : List (ByteArray × ByteArray × Int)} (h : EntRow w F A l) (hf : Fr S w w') (hS : ∀ k, F k → ¬ S k) : EntRow w' F A l := fun k x hx => by
  obtain ⟨b, o, e, h1, h2, h3, h4⟩ := h k x hx
  exact ⟨b, o, e, h1, hf.cell_some h2 (hS b h1), hf.cell_some h3 (hS b h1), hf.cell_some h4 (hS b h1)⟩
theorem EntRow.mono_ {w : World} {F F' : Nat → Prop} {A : Option Addr} {l : List (ByteArray × ByteArray × Int)} (h : EntRow w F A l) (hF : ∀ k, F k → F' k) : EntRow w F' A l := fun k x hx => by
  obtain ⟨b, o, e, h1, h2⟩ := h k x hx
  exact ⟨b, o, e, hF _ h1, h2⟩
theorem entry_info : (Tryz.prog.info? 119).map (fun i => (i.zero, i.size, i.bytes)) = some (some (.agg #[.string ⟨#[]⟩, .string ⟨#[]⟩, .int .i64 0]), 3, 40) := by kernel_rfl
def entB (x : ByteArray × ByteArray × Int) : List Int := textB (bytesOf x.1) ++ textB (bytesOf x.2.1) ++ num8 x.2.2
def entsV (L : List (ByteArray × ByteArray × Int)) : List Value := L.flatMap fun x => [.string x.1, .string x.2.1, .int .i64 x.2.2]
theorem triples_at {α : Type} {f g h : α → Value} : ∀ {l : List α} {k : Nat} {x : α}, l[k]? = some x → (l.flatMap fun x => [f x, g x, h x])[k * 3]? = some (f x) ∧ (l.flatMap fun x => [f x, g x, h x])[k * 3 + 1]? = some (g x) ∧ (l.flatMap fun x => [f x, g x, h x])[k * 3 + 2]? = some (h x)
  | [], k, x, e => by simp at e
  | y :: l, 0, x, e => by simp at e; subst e; exact ⟨rfl, rfl, rfl⟩
  | y :: l, k + 1, x, e => by
    have e' : l[k]? = some x := by simpa using e
    obtain ⟨h1, h2, h3⟩ := triples_at (f := f) (g := g) (h := h) e'
    rw [List.flatMap_cons]
    refine ⟨?_, ?_, ?_⟩
    · rw [show (k + 1) * 3 = k * 3 + 3 by omega]; simpa using h1
    · rw [show (k + 1) * 3 + 1 = (k * 3 + 1) + 3 by omega]; simpa using h2
    · rw [show (k + 1) * 3 + 2 = (k * 3 + 2) + 3 by omega]; simpa using h3
theorem own_ents {w : World} {base : Nat} {v : Value} {L : List (ByteArray × ByteArray × Int)} (h : w.ownsRow base 119 3 v L.length (entsV L)) : ∃ A c, v = .slice A L.length c ∧ EntRow w (fun k => base ≤ k) A L := by
  obtain ⟨A, c, rfl, _, hat⟩ := own_form h
  refine ⟨A, c, rfl, fun k x hx => ?_⟩
  obtain ⟨h1, h2, h3⟩ := triples_at (f := fun x => .string x.1) (g := fun x => .string x.2.1) (h := fun x => .int .i64 x.2.2) hx
  obtain ⟨b, rfl, hb, c1⟩ := hat _ _ h1
  obtain ⟨b', he, _, c2⟩ := hat _ _ h2
  cases he
  obtain ⟨b', he, _, c3⟩ := hat _ _ h3
  cases he
  exact ⟨b, 0, rfl, hb, by rw [Nat.zero_add]; exact c1, by rw [Nat.zero_add]; exact c2, by rw [Nat.zero_add]; exact c3⟩
theorem own_ints {w : World} {base : Nat} {e : TypeId} {v : Value} {l : List Int} (h : w.ownsRow base e 1 v l.length (num64V l)) : ∃ A c, v = .slice A l.length c ∧ IntF w (fun k => base ≤ k) A l := by
  obtain ⟨A, c, rfl, _, hat⟩ := own_form h
  refine ⟨A, c, rfl, fun k x hx => ?_⟩
  obtain ⟨b, rfl, hb, c1⟩ := hat k (.int .i64 x) (by rw [num64V, List.getElem?_map, hx]; rfl)
  exact ⟨b, 0, rfl, hb, by rw [Nat.zero_add]; exact c1⟩
/-- An order's bytes. -/
def ordB (kind : Int) (t0 t1 t2 : List Int) (many first : Int) (L : List (ByteArray × ByteArray × Int)) (Bs : List Int) : List Int :=
  num8 kind ++ (textB t0 ++ (textB t1 ++ (textB t2 ++ (num8 many ++ (num8 first ++ (num8 (L.length : Int) ++ (L.flatMap entB ++ numsB Bs)))))))
/-- A thing that is read part by part: its cells, the result's, the reader, texts that were read. -/
structure GO (w0 w : World) (a gt g : Nat) (cs : Array Value) (s : List Int) (rows : List (Option Addr × List Int)) : Prop where
  res : Blk w a 62 #[.int .i64 0, .int .i64 0, .int .i64 0, .slice none 0 0, .slice none 0 0, .int .i64 0, .int .i64 0, .bool false, .string ⟨#[]⟩, .string ⟨#[]⟩, .int .i64 0, .int .i64 0, .int .i64 0, .int .i64 0, .int .i64 0, .int .i64 0, .slice none 0 0, .int .i64 0, .int .i64 0, .slice none 0 0, .slice none 0 0]
  t : Blk w gt 62 cs
  r : RS w g s
  rows : ∀ p ∈ rows, ByteRow w (U8 w) p.1 p.2
  f : Fr (fun _ => False) w0 w
  ha : w0.heap.size = a
  hag : a < gt
  hg : a < g
theorem GO.keep {w0 w w' : World} {a gt g : Nat} {cs : Array Value} {s : List Int} {rows : List (Option Addr × List Int)} (h : GO w0 w a gt g cs s rows) (hf : Fr (fun _ => False) w w') : GO w0 w' a gt g cs s rows :=
  ⟨h.res.fr hf id, h.t.fr hf id, h.r.keep hf, fun p hp => (h.rows p hp).u8 hf (fun _ _ => id), h.f.then_ hf, h.ha, h.hag, h.hg⟩
theorem GO.read {w0 w w' : World} {a gt g : Nat} {cs : Array Value} {s s' : List Int} {rows : List (Option Addr × List Int)} (h : GO w0 w a gt g cs s rows) (hf : Fr (fun k => k = g) w w') (hr : RS w' g s') : GO w0 w' a gt g cs s' rows :=
  ⟨h.res.fr hf (h.r.ne h.res (by decide)), h.t.fr hf (h.r.ne h.t (by decide)), hr, fun p hp => (h.rows p hp).u8 hf (fun q hq e => by obtain ⟨ds, hD⟩ := h.r.blk; exact hq.ne_blk hD (by decide) e), h.f.trans hf (fun k hk e => by have := h.hg; have := h.ha; omega), h.ha, h.hag, h.hg⟩
theorem GO.own {w0 w w' : World} {a gt g base n size : Nat} {cs : Array Value} {s : List Int} {rows : List (Option Addr × List Int)} {e : TypeId} {v : Value} {xs : List Value} (h : GO w0 w a gt g cs s rows) (ho : w.ownsRow base e size v n xs) (hb : w0.heap.size ≤ base) (h8 : e ≠ 5) (hr : e ≠ 131) (hO : e ≠ 62) (hf : Fr (fun k => v.ownBlock = some k) w w') : GO w0 w' a gt g cs s rows :=
  ⟨h.res.fr hf (own_ne_blk ho h.res hO), h.t.fr hf (own_ne_blk ho h.t hO), h.r.own ho h8 hr hf, fun p hp => (h.rows p hp).u8 hf (fun q hq => hq.ne_own ho h8), h.f.trans hf (fun k hk e => by have := own_ge ho k e; omega), h.ha, h.hag, h.hg⟩
theorem Blk.setRow_ {w : World} {g : Nat} {t : TypeId} {cs ds : Array Value} (h : Blk w g t cs) : Blk (w.setRow g ds) g t ds := by
  have hlt := h.lt
  have e := h
  simp only [Blk, World.setRow] at e ⊢
  simp [Array.getElem?_modify, e]
theorem Fr.setRow_ {w : World} {g : Nat} {ds : Array Value} : Fr (fun k => k = g) w (w.setRow g ds) := by
  refine ⟨rfl, rfl, rfl, by simp [World.setRow], fun k _ hk => ?_⟩
  have : g ≠ k := fun e => hk e.symm
  simp [World.setRow, Array.getElem?_modify, this]
theorem Blk.there {w : World} {g : Nat} {t : TypeId} {cs : Array Value} (h : Blk w g t cs) {o n : Nat} (hn : o + n ≤ cs.size) : w.there g o n := fun j hj => by
  rw [h.cell, h.frozen]
  have : o + j < cs.size := by omega
  simp [this]
end Go.Proofs.YtmkdhhhoodeemaaGreat

/- merkle: right. -/
namespace Go.Proofs.YtmkdhhhoodeemaaGreat
open Go Go.RowKit
def entOk (x : ByteArray × ByteArray × Int) : Bool := !decide ((64 : Int) < (x.2.1.size : Int))
/-- May they be entries? -/
def risesE (L : List (ByteArray × ByteArray × Int)) : Bool := okTo entOk L L.length && decide ((L.length : Int) ≤ 1024)
theorem risesE_no {l : List (ByteArray × ByteArray × Int)} {k : Nat} (hk : k < l.length) (h1 : okAt entOk l k = false) : risesE l = false := by
  unfold risesE
  have : okTo entOk l l.length = false := by
    unfold okTo
    rw [List.all_eq_false]
    exact ⟨k, List.mem_range.2 hk, by simp [h1]⟩
  rw [this]
  rfl
theorem less_or : ∀ x y : List UInt8, (Op.bytesLess x y || x == y) = !Op.bytesLess y x
  | [], [] => rfl
  | [], _ :: _ => rfl
  | _ :: _, [] => rfl
  | a :: x, b :: y => by
    have ih := less_or x y
    unfold Op.bytesLess
    by_cases h : a < b
    · have h2 : ¬ b < a := fun h' => absurd (UInt8.lt_trans h h') (UInt8.lt_irrefl _)
      have h3 : ¬ b = a := fun e => by rw [e] at h; exact UInt8.lt_irrefl _ h
      simp [h, h2, h3]
    · by_cases h2 : b < a
      · have h3 : ¬ a = b := fun e => by rw [e] at h2; exact UInt8.lt_irrefl _ h2
        simp [h, h2, h3]
      · have h3 : a = b := UInt8.le_antisymm (UInt8.not_lt.1 h2) (UInt8.not_lt.1 h)
        subst h3
        simpa [h] using ih
set_option maxRecDepth 100000 in
set_option maxHeartbeats 4000000 in
theorem merkle_right {w : World} {F : Nat → Prop} {A : Option Addr} {l : List (ByteArray × ByteArray × Int)} {cap : Nat} (h : EntRow w F A l) (hll : l.length ≤ 1000000) :
    Calls Tryz.prog 113 #[.slice A l.length cap] w (OkB w (risesE l)) := by
  go_enter Tryz.func113, Tryz.ntmps113
  go_wp2_with fail
  go_loopw [7] (fun ix wr => ∃ k : Nat, k ≤ l.length ∧ ix = .int .i64 k ∧ Hid (okTo entOk l k = true) ∧ Fr (fun _ => False) w wr) (fun ix _ => l.length - (intOf ix).toNat)
  case atStart => exact ⟨0, by omega, rfl, rfl, Fr.refl _ _⟩
  case round =>
    obtain ⟨k, hk, rfl, hok, hf⟩ := hrel
    by_cases hlt : k < l.length
    · have hlt' : (k : Int) < (l.length : Int) := by omega
      obtain ⟨x, hx⟩ : ∃ x, l[k]? = some x := ⟨l[k], List.getElem?_eq_getElem hlt⟩
      obtain ⟨b, o, rfl, hFb, hc0, hc1, hc2⟩ := (h.fr hf (fun _ _ => id)) k x hx
      have HX := Lib.hid hx
      have HR := Lib.hid h
      have d0 := hc0
      have d1 := hc1
      have d2 := hc2
      clear hx h hc0 hc1 hc2
      go_upto_region 4 with fail
      generalize hgx : wr.heap.size = gx
      have hb0 : Blk (wr.alloc (Obj.cells #[.string x.1, .string x.2.1, .int .i64 x.2.2] 119)) gx 119 #[.string x.1, .string x.2.1, .int .i64 x.2.2] := Blk.new_ _ _ _ hgx.symm
      have hfa : Fr (fun _ => False) wr (wr.alloc (Obj.cells #[.string x.1, .string x.2.1, .int .i64 x.2.2] 119)) := (Fr.refl _ _).alloc _
      generalize wr.alloc (Obj.cells #[.string x.1, .string x.2.1, .int .i64 x.2.2] 119) = wa at hb0 hfa ⊢
      have HGX := Lib.hid hgx
      have hfw := hf.then_ hfa
      clear d0 d1 d2 hgx
      have y0 := hb0.cell 0
      have y1 := hb0.cell 1
      by_cases c16 : (16 : Int) < x.1.size
      · have eo : okAt entOk l k = false := by unfold okAt; rw [HX.out]; simp [c16]
        have q16 : decide ((16 : Int) < x.1.size) = true := decide_eq_true c16
        have HNO := Lib.hid (risesE_no hlt eo)
        clear eo
        go_quiet (fail)
        go_wp2
        go_ret
        rw [HNO.out]
        exact ⟨rfl, hfw.drewN _⟩
      · have q16 : decide ((16 : Int) < x.1.size) = false := decide_eq_false c16
        by_cases c64 : (64 : Int) < x.2.1.size
        · have eo : okAt entOk l k = false := by unfold okAt; rw [HX.out]; simp [entOk, c64]
          have q64 : decide ((64 : Int) < x.2.1.size) = true := decide_eq_true c64
          have HNO := Lib.hid (risesE_no hlt eo)
          clear eo
          go_quiet (fail)
          go_wp2
          go_ret
          rw [HNO.out]
          exact ⟨rfl, hfw.drewN _⟩
        · have q64 : decide ((64 : Int) < x.2.1.size) = false := decide_eq_false c64
          cases k with
          | zero =>
            have eo : okAt entOk l 0 = true := by unfold okAt; rw [HX.out]; simp [entOk, c64, c16]
            have hn := okTo_succ entOk hok.out eo
            have HN := Lib.hid hn
            clear eo hn
            go_quiet (fail)
            go_wp2_with fail
            go_roundw
            case rel => exact ⟨1, by omega, by go_num, HN, hfw.drewN _⟩
            case measure => simp [intOf]; omega
          | succ j =>
            obtain ⟨y, hy⟩ : ∃ y, l[j]? = some y := ⟨l[j], List.getElem?_eq_getElem (by omega)⟩
            obtain ⟨b', o', hbo, _, e0, _, _⟩ := (HR.out.fr hfw (fun _ _ => id)) j y hy
            cases hbo
            have eo : okAt entOk l (j + 1) = strLess y.1 x.1 := by unfold okAt; rw [HX.out]; dsimp only; rw [hy]; simp [entOk, c64, c16]
            have hj : (j : Int) < (l.length : Int) := by omega
            by_cases hs : strLess y.1 x.1 = true
            · have hsl : (Op.bytesLess x.1.toList y.1.toList || x.1.toList == y.1.toList) = false := by rw [less_or, show Op.bytesLess y.1.toList x.1.toList = true from hs]; rfl
              rw [Bool.or_eq_false_iff] at hsl
              obtain ⟨hs1, hs2⟩ := hsl
              have hn := okTo_succ entOk hok.out (eo.trans hs)
              have HN := Lib.hid hn
              clear eo hn hs hy
              go_quiet (fail)
              go_wp2_with fail
              go_roundw
              case rel => exact ⟨j + 1 + 1, by omega, by go_num, HN, hfw.drewN _⟩
              case measure => simp [intOf]; omega
            · have hsl : (Op.bytesLess x.1.toList y.1.toList || x.1.toList == y.1.toList) = true := by rw [less_or, show Op.bytesLess y.1.toList x.1.toList = false by simpa [strLess] using hs]; rfl
              have HNO := Lib.hid (risesE_no hlt (eo.trans (by simpa using hs)))
              clear eo hs hy
              go_quiet (fail)
              go_wp2
              go_ret
              rw [HNO.out]
              exact ⟨rfl, hfw.drewN _⟩
    · obtain rfl : k = l.length := by omega
      have he : risesE l = decide ((l.length : Int) ≤ 1024) := by unfold risesE; rw [hok.out]; rfl
      have HE := Lib.hid he
      clear he
      by_cases q : (l.length : Int) ≤ 1024
      · go_wp2
        go_ret
        rw [HE.out, decide_eq_true q]
        exact ⟨rfl, hf⟩
      · go_wp2
        go_ret
        rw [HE.out, decide_eq_false (by omega)]
        exact ⟨rfl, hf⟩
end Go.Proofs.YtmkdhhhoodeemaaGreat

/- slices.Clone, IndexFunc, DeleteFunc of entries. -/
namespace Go.Proofs.YtmkdhhhoodeemaaGreat
open Go Go.RowKit
abbrev Ent : Type := ByteArray × ByteArray × Int
theorem run_clear_big {P : Program} (w : World) (t e ty : TypeId) (z : Value) (ht : P.underlying t = some (.slice e)) (hv : ∀ w, (zeroValue e).run P w = .ok z w) (b o n c : Nat) (hn : 0 < n) (h1 : ∀ v ∈ (Builtin.zeroCells z.cells n).toList, v.oneCell' = true)
    (hc : ∀ j, j < n * z.cells.size → (w.cell? ⟨b, o + j, none⟩).isSome = true) (hf : ∀ j, j < n * z.cells.size → w.frozen? ⟨b, o + j, none⟩ = false) :
    (Builtin.clear_ #[t] ty #[.slice (some ⟨b, o, none⟩) n c]).run P w = .ok (.tuple #[]) (w.setCells b o (Builtin.zeroCells z.cells n).toList) := by
  have hl : (Builtin.zeroCells z.cells n).toList.length = n * z.cells.size := by simp [Builtin.zeroCells]
  have hst := run_storeCells_cells (P := P) b o (Builtin.zeroCells z.cells n).toList 0 w (by rw [hl]; simpa using hc) (by rw [hl]; simpa using hf) h1
  simp only [Nat.add_zero] at hst
  obtain ⟨m, rfl⟩ : ∃ m, n = m + 1 := ⟨n - 1, by omega⟩
  simp [Builtin.clear_, run_underlying ht, hv, hst]
theorem Fr.setCells_ {S : Nat → Prop} {a : World} {b : Nat} (hb : b < a.heap.size → S b) : ∀ (vs : List Value) (o : Nat) {w : World}, Fr S a w → Fr S a (w.setCells b o vs)
  | [], _, _, h => h
  | v :: r, o, _, h => Fr.setCells_ hb r (o + 1) (h.setCell (p := ⟨b, o, none⟩) hb v)
/-- The cells hold these entries. -/
def EntA (cs : Array Value) (d : Array Ent) : Prop :=
  ∀ k x, d[k]? = some x → cs[k * 3]? = some (.string x.1) ∧ cs[k * 3 + 1]? = some (.string x.2.1) ∧ cs[k * 3 + 2]? = some (.int .i64 x.2.2)
theorem EntA.lt {cs : Array Value} {d : Array Ent} (h : EntA cs d) {k : Nat} (hk : k < d.size) : k * 3 + 2 < cs.size := by
  obtain ⟨_, _, h3⟩ := h k _ (Array.getElem?_eq_getElem hk)
  exact (Array.getElem?_eq_some_iff.1 h3).1
theorem EntA.set_ {cs : Array Value} {d : Array Ent} (h : EntA cs d) {i : Nat} (hi : i < d.size) (x : Ent) :
    EntA (((cs.setIfInBounds (i * 3) (.string x.1)).setIfInBounds (i * 3 + 1) (.string x.2.1)).setIfInBounds (i * 3 + 1 + 1) (.int .i64 x.2.2)) (d.setIfInBounds i x) := by
  have hz := h.lt hi
  intro k y hy
  by_cases e : k = i
  · subst e
    have : y = x := by
      rw [Array.getElem?_setIfInBounds, if_pos rfl, if_pos hi] at hy
      exact (Option.some.inj hy).symm
    subst this
    simp only [Array.getElem?_setIfInBounds, Array.size_setIfInBounds]
    refine ⟨?_, ?_, ?_⟩
    · rw [if_neg (by omega), if_neg (by omega), if_pos trivial, if_pos (by omega)]
    · rw [if_neg (by omega), if_pos trivial, if_pos (by omega)]
    · rw [if_pos trivial, if_pos (by omega)]
  · rw [Array.getElem?_setIfInBounds, if_neg (fun h => e h.symm)] at hy
    obtain ⟨h1, h2, h3⟩ := h k y hy
    simp only [Array.getElem?_setIfInBounds, Array.size_setIfInBounds]
    refine ⟨?_, ?_, ?_⟩
    · rw [if_neg (by omega), if_neg (by omega), if_neg (by omega)]; exact h1
    · rw [if_neg (by omega), if_neg (by omega), if_neg (by omega)]; exact h2
    · rw [if_neg (by omega), if_neg (by omega), if_neg (by omega)]; exact h3
theorem EntA.row {w : World} {g : Nat} {t : TypeId} {cs : Array Value} {d : Array Ent} (h : EntA cs d) (hb : Blk w g t cs) : EntRow w (fun k => k = g) (some ⟨g, 0, none⟩) d.toList := by
  intro k x hx
  obtain ⟨h1, h2, h3⟩ := h k x (by simpa using hx)
  refine ⟨g, 0, rfl, rfl, ?_, ?_, ?_⟩
  · rw [Nat.zero_add, hb.cell]; exact h1
  · rw [Nat.zero_add, hb.cell]; exact h2
  · rw [Nat.zero_add, hb.cell]; exact h3
/-- Is a key outside a range? -/
def dropE (ff tt : ByteArray) (x : Ent) : Bool := Op.bytesLess x.1.toList ff.toList || (!tt.toList.isEmpty && !Op.bytesLess x.1.toList tt.toList)
def IdxP (w : World) (p : Ent → Bool) (l : List Ent) (e : Ending) (w' : World) : Prop :=
  (∃ i : Int, e = .returned (.int .i64 i) ∧ ((i = -1 ∧ ∀ (k : Nat) x, l[k]? = some x → p x = false) ∨ ∃ k : Nat, i = (k : Int) ∧ k < l.length ∧ (∀ (j : Nat) x, j < k → l[j]? = some x → p x = false) ∧ ∀ x, l[k]? = some x → p x = true)) ∧ Fr (fun _ => False) w w'
set_option maxRecDepth 100000 in
set_option maxHeartbeats 1000000 in
theorem indexEntT {w : World} {F : Nat → Prop} {A : Option Addr} {l : List Ent} {cap : Nat} {p : Ent → Bool} {sb : Nat} (h : EntRow w F A l) (hll : l.length ≤ 1000000) (hP : ∀ w' x, Fr (fun _ => False) w w' → Calls Tryz.prog 83 #[.agg #[.string x.1, .string x.2.1, .int .i64 x.2.2], .pointer (some ⟨sb, 0, none⟩)] w' (OkB w' (p x))) :
    Calls Tryz.prog 112 #[.slice A l.length cap, .func (.func 83) #[] #[.pointer (some ⟨sb, 0, none⟩)]] w (IdxP w p l) := by
  have HP := Lib.hid hP
  clear hP
  go_enter Tryz.func112, Tryz.ntmps112
  go_wp2_with fail
  go_loopw [8] (fun i wr => ∃ k : Nat, k ≤ l.length ∧ i = .int .i64 k ∧ Hid (∀ (j : Nat) x, j < k → l[j]? = some x → p x = false) ∧ Fr (fun _ => False) w wr) (fun i _ => l.length - (intOf i).toNat)
  case atStart => exact ⟨0, by omega, rfl, fun j s h _ => by omega, Fr.refl _ _⟩
  case round =>
    obtain ⟨k, hk, rfl, hsh, hf⟩ := hrel
    by_cases hlt : k < l.length
    · obtain ⟨x, hx0⟩ : ∃ x, l[k]? = some x := ⟨l[k], List.getElem?_eq_getElem hlt⟩
      obtain ⟨b, o, rfl, hFb, hc0, hc1, hc2⟩ := (h.fr hf (fun _ _ => id)) k x hx0
      have hlt' : (k : Int) < (l.length : Int) := by omega
      have HX := Lib.hid hx0
      have HK := Lib.hid (HP.out wr x hf)
      clear h hx0
      cases hp : p x with
      | false =>
        rw [hp] at HK
        have HPX := Lib.hid hp
        clear hp
        go_wp2_with (first
          | (go_at_call 83; refine HK.out.mono ?_; rintro e w1 ⟨rfl, hf1⟩))
        go_roundw
        case rel =>
          refine ⟨k + 1, by omega, by go_num, ?_, hf.then_ hf1⟩
          intro j v hj hs
          by_cases hjk : j = k
          · subst hjk
            have e := HX.out
            rw [hs] at e
            rw [Option.some.inj e]
            exact HPX.out
          · exact hsh.out j v (by omega) hs
        case measure => simp [intOf]; omega
      | true =>
        rw [hp] at HK
        have HPX := Lib.hid hp
        clear hp
        go_wp2_with (first
          | (go_at_call 83; refine HK.out.mono ?_; rintro e w1 ⟨rfl, hf1⟩))
        go_ret
        have hhit : ∀ y, l[k]? = some y → p y = true := fun y hy => by
          have e := HX.out
          rw [hy] at e
          rw [Option.some.inj e]
          exact HPX.out
        exact ⟨⟨_, rfl, .inr ⟨k, rfl, hlt, hsh.out, hhit⟩⟩, hf.then_ hf1⟩
    · obtain rfl : k = l.length := by omega
      clear h
      go_wp2
      go_ret
      have hno : ∀ (j : Nat) x, l[j]? = some x → p x = false := fun j x hj => hsh.out j x (List.getElem?_eq_some_iff.1 hj).1 hj
      exact ⟨⟨_, rfl, .inl ⟨rfl, hno⟩⟩, hf⟩
set_option maxRecDepth 100000 in
set_option maxHeartbeats 1000000 in
theorem indexEntF {w : World} {F : Nat → Prop} {A : Option Addr} {l : List Ent} {cap : Nat} {p : Ent → Bool} (h : EntRow w F A l) (hll : l.length ≤ 1000000) (hP : ∀ w' x, Fr (fun _ => False) w w' → Calls Tryz.prog 179 #[.agg #[.string x.1, .string x.2.1, .int .i64 x.2.2]] w' (OkB w' (p x))) :
    Calls Tryz.prog 112 #[.slice A l.length cap, .func (.func 179) #[] #[]] w (IdxP w p l) := by
  have HP := Lib.hid hP
  clear hP
  go_enter Tryz.func112, Tryz.ntmps112
  go_wp2_with fail
  go_loopw [8] (fun i wr => ∃ k : Nat, k ≤ l.length ∧ i = .int .i64 k ∧ Hid (∀ (j : Nat) x, j < k → l[j]? = some x → p x = false) ∧ Fr (fun _ => False) w wr) (fun i _ => l.length - (intOf i).toNat)
  case atStart => exact ⟨0, by omega, rfl, fun j s h _ => by omega, Fr.refl _ _⟩
  case round =>
    obtain ⟨k, hk, rfl, hsh, hf⟩ := hrel
    by_cases hlt : k < l.length
    · obtain ⟨x, hx0⟩ : ∃ x, l[k]? = some x := ⟨l[k], List.getElem?_eq_getElem hlt⟩
      obtain ⟨b, o, rfl, hFb, hc0, hc1, hc2⟩ := (h.fr hf (fun _ _ => id)) k x hx0
      have hlt' : (k : Int) < (l.length : Int) := by omega
      have HX := Lib.hid hx0
      have HK := Lib.hid (HP.out wr x hf)
      clear h hx0
      cases hp : p x with
      | false =>
        rw [hp] at HK
        have HPX := Lib.hid hp
        clear hp
        go_wp2_with (first
          | (go_at_call 179; refine HK.out.mono ?_; rintro e w1 ⟨rfl, hf1⟩))
        go_roundw
        case rel =>
          refine ⟨k + 1, by omega, by go_num, ?_, hf.then_ hf1⟩
          intro j v hj hs
          by_cases hjk : j = k
          · subst hjk
            have e := HX.out
            rw [hs] at e
            rw [Option.some.inj e]
            exact HPX.out
          · exact hsh.out j v (by omega) hs
        case measure => simp [intOf]; omega
      | true =>
        rw [hp] at HK
        have HPX := Lib.hid hp
        clear hp
        go_wp2_with (first
          | (go_at_call 179; refine HK.out.mono ?_; rintro e w1 ⟨rfl, hf1⟩))
        go_ret
        have hhit : ∀ y, l[k]? = some y → p y = true := fun y hy => by
          have e := HX.out
          rw [hy] at e
          rw [Option.some.inj e]
          exact HPX.out
        exact ⟨⟨_, rfl, .inr ⟨k, rfl, hlt, hsh.out, hhit⟩⟩, hf.then_ hf1⟩
    · obtain rfl : k = l.length := by omega
      clear h
      go_wp2
      go_ret
      have hno : ∀ (j : Nat) x, l[j]? = some x → p x = false := fun j x hj => hsh.out j x (List.getElem?_eq_some_iff.1 hj).1 hj
      exact ⟨⟨_, rfl, .inl ⟨rfl, hno⟩⟩, hf⟩
set_option maxRecDepth 100000 in
theorem told1 {w : World} {sb : Nat} {ff tt : ByteArray} (k3 : w.cell? ⟨sb, 3, none⟩ = some (.string ff)) (k4 : w.cell? ⟨sb, 4, none⟩ = some (.string tt)) (x : Ent) :
    Calls Tryz.prog 83 #[.agg #[.string x.1, .string x.2.1, .int .i64 x.2.2], .pointer (some ⟨sb, 0, none⟩)] w (OkB w (dropE ff tt x)) := by
  have hB := Blk.new w 119 #[.string x.1, .string x.2.1, .int .i64 x.2.2]
  have hf : Fr (fun _ => False) w (w.alloc (Obj.cells #[.string x.1, .string x.2.1, .int .i64 x.2.2] 119)) := (Fr.refl _ _).alloc _
  have k3 := hf.cell_some k3 id
  have k4 := hf.cell_some k4 id
  go_enter Tryz.func83, Tryz.ntmps83
  go_upto_region 1 with fail
  generalize w.alloc (Obj.cells #[.string x.1, .string x.2.1, .int .i64 x.2.2] 119) = w1 at *
  have y0 := hB.cell 0
  clear hB
  have HF := Lib.hid hf
  clear hf
  have he : dropE ff tt x = (Op.bytesLess x.1.toList ff.toList || (!tt.toList.isEmpty && !Op.bytesLess x.1.toList tt.toList)) := rfl
  have HE := Lib.hid he
  clear he
  cases h1 : Op.bytesLess x.1.toList ff.toList with
  | true =>
    go_wp2_with fail
    go_ret
    exact ⟨by rw [HE.out, h1]; rfl, HF.out⟩
  | false =>
    cases h2 : tt.toList.isEmpty with
    | true =>
      go_wp2_with fail
      go_ret
      exact ⟨by rw [HE.out, h1, h2]; rfl, HF.out⟩
    | false =>
      go_wp2_with fail
      go_ret
      exact ⟨by rw [HE.out, h1, h2]; rfl, HF.out⟩
end Go.Proofs.YtmkdhhhoodeemaaGreat

/- say: does a proof fit. -/
namespace Go.Proofs.YtmkdhhhoodeemaaGreat
open Go Go.RowKit
def longE (x : Ent) : Bool := decide ((16 : Int) < (x.1.size : Int)) || decide ((64 : Int) < (x.2.1.size : Int))
set_option maxRecDepth 100000 in
theorem fits1 (w : World) (x : Ent) : Calls Tryz.prog 179 #[.agg #[.string x.1, .string x.2.1, .int .i64 x.2.2]] w (OkB w (longE x)) := by
  have hB := Blk.new w 119 #[.string x.1, .string x.2.1, .int .i64 x.2.2]
  have hf : Fr (fun _ => False) w (w.alloc (Obj.cells #[.string x.1, .string x.2.1, .int .i64 x.2.2] 119)) := (Fr.refl _ _).alloc _
  have he : longE x = (decide ((16 : Int) < (x.1.size : Int)) || decide ((64 : Int) < (x.2.1.size : Int))) := rfl
  have HE := Lib.hid he
  clear he
  go_enter Tryz.func179, Tryz.ntmps179
  go_upto_region 1 with fail
  generalize w.alloc (Obj.cells #[.string x.1, .string x.2.1, .int .i64 x.2.2] 119) = w1 at *
  have y0 := hB.cell 0
  have y1 := hB.cell 1
  clear hB
  have HF := Lib.hid hf
  clear hf
  by_cases c16 : (16 : Int) < (x.1.size : Int)
  · have q16 : decide ((16 : Int) < (x.1.size : Int)) = true := decide_eq_true c16
    go_wp2_with fail
    go_ret
    exact ⟨by rw [HE.out, q16]; rfl, HF.out⟩
  · have q16 : decide ((16 : Int) < (x.1.size : Int)) = false := decide_eq_false c16
    by_cases c64 : (64 : Int) < (x.2.1.size : Int)
    · have q64 : decide ((64 : Int) < (x.2.1.size : Int)) = true := decide_eq_true c64
      go_wp2_with fail
      go_ret
      exact ⟨by rw [HE.out, q16, q64]; rfl, HF.out⟩
    · have q64 : decide ((64 : Int) < (x.2.1.size : Int)) = false := decide_eq_false c64
      go_wp2_with fail
      go_ret
      exact ⟨by rw [HE.out, q16, q64]; rfl, HF.out⟩
theorem containsEnt {w : World} {F : Nat → Prop} {A : Option Addr} {l : List Ent} {cap : Nat} (h : EntRow w F A l) (hll : l.length ≤ 1000000) (hno : ∀ x ∈ l, longE x = false) :
    Calls Tryz.prog 181 #[.slice A l.length cap, .func (.func 179) #[] #[]] w (OkB w false) := by
  have HI := Lib.hid (indexEntF (cap := cap) h hll (fun w' x _ => fits1 w' x))
  have HNO := Lib.hid hno
  clear h hll hno
  go_enter Tryz.func181, Tryz.ntmps181
  go_upto_region 1 with fail
  go_wp2_with (go_at_call 112; refine HI.out.mono ?_; rintro e w1 ⟨⟨i, rfl, hi⟩, hf1⟩; obtain rfl : i = -1 := (by
    rcases hi with ⟨rfl, _⟩ | ⟨k, rfl, hk, _, hh⟩
    · rfl
    · have h1 := hh _ (List.getElem?_eq_getElem hk)
      rw [HNO.out _ (List.getElem_mem hk)] at h1
      cases h1); clear hi)
  go_ret
  exact ⟨rfl, hf1⟩
theorem intRow_blk {w : World} {g : Nat} {t : TypeId} {l : List Int} (h : Blk w g t (intsA l)) : IntRow w w.heap.size (some ⟨g, 0, none⟩) l := by
  intro k x hx
  refine ⟨g, 0, rfl, h.lt, ?_⟩
  rw [Nat.zero_add, h.cell, intsA_at hx]
theorem fits2 (w : World) (d : Int) (h : 0 ≤ d ∧ d ≤ 2147483647) : Calls Tryz.prog 180 #[.int .i64 d] w (OkB w false) := by
  have hB : Blk (w.alloc (Obj.cells #[.int .i64 d] 3)) w.heap.size 3 (intsA [d]) := Blk.new _ _ _
  have hf : Fr (fun _ => False) w (w.alloc (Obj.cells #[.int .i64 d] 3)) := (Fr.refl _ _).alloc _
  have HB := say_betweenAll (cap := 1) (intRow_blk hB) (by simp) (by simp) 2147483647
  rw [show Betw 2147483647 [d] = true by simp [Betw, h.1, h.2]] at HB
  replace HB := Lib.hid HB
  clear hB h
  go_enter Tryz.func180, Tryz.ntmps180
  go_wp2_with (go_at_call 125; refine HB.out.mono ?_; rintro e w1 ⟨rfl, rfl⟩)
  go_ret
  exact ⟨rfl, hf⟩
theorem indexInt {w : World} {F : Nat → Prop} {A : Option Addr} {l : List Int} {cap : Nat} (h : IntF w F A l) (hll : l.length ≤ 1000000) (hok : ∀ d ∈ l, 0 ≤ d ∧ d ≤ 2147483647) :
    Calls Tryz.prog 186 #[.slice A l.length cap, .func (.func 180) #[] #[]] w fun e w' => e = .returned (.int .i64 (-1)) ∧ Fr (fun _ => False) w w' := by
  have HOK := Lib.hid hok
  clear hok
  go_enter Tryz.func186, Tryz.ntmps186
  go_wp2_with fail
  go_loopw [8] (fun i wr => ∃ k : Nat, k ≤ l.length ∧ i = .int .i64 k ∧ Fr (fun _ => False) w wr) (fun i _ => l.length - (intOf i).toNat)
  case atStart => exact ⟨0, by omega, rfl, Fr.refl _ _⟩
  case round =>
    obtain ⟨k, hk, rfl, hf⟩ := hrel
    by_cases hlt : k < l.length
    · obtain ⟨x, hx0⟩ : ∃ x, l[k]? = some x := ⟨l[k], List.getElem?_eq_getElem hlt⟩
      obtain ⟨b, o, rfl, hFb, hc0⟩ := (h.fr hf (fun _ _ => id)) k x hx0
      have hlt' : (k : Int) < (l.length : Int) := by omega
      have HK := Lib.hid (fits2 wr x (HOK.out x (List.mem_of_getElem? hx0)))
      clear h hx0
      go_wp2_with (first
        | (go_at_call 180; refine HK.out.mono ?_; rintro e w1 ⟨rfl, hf1⟩))
      go_roundw
      case rel => exact ⟨k + 1, by omega, by go_num, hf.then_ hf1⟩
      case measure => simp [intOf]; omega
    · obtain rfl : k = l.length := by omega
      clear h
      go_wp2
      go_ret
      exact ⟨rfl, hf⟩
theorem containsInt {w : World} {F : Nat → Prop} {A : Option Addr} {l : List Int} {cap : Nat} (h : IntF w F A l) (hll : l.length ≤ 1000000) (hok : ∀ d ∈ l, 0 ≤ d ∧ d ≤ 2147483647) :
    Calls Tryz.prog 182 #[.slice A l.length cap, .func (.func 180) #[] #[]] w (OkB w false) := by
  have HI := Lib.hid (indexInt (cap := cap) h hll hok)
  clear h hll hok
  go_enter Tryz.func182, Tryz.ntmps182
  go_wp2_with (go_at_call 186; refine HI.out.mono ?_; rintro e w1 ⟨rfl, hf1⟩)
  go_ret
  exact ⟨rfl, hf1⟩
/-- A proof that an order may have. -/
structure FitP (l : List Ent) (Bs : List Int) : Prop where
  ll : l.length ≤ 1024
  long : ∀ x ∈ l, longE x = false
  bl : Bs.length ≤ 1024
  d : ∀ d ∈ Bs, 0 ≤ d ∧ d ≤ 2147483647
set_option maxRecDepth 100000 in
theorem fits_ok {w : World} {F : Nat → Prop} {LA BA : Option Addr} {lc bc : Nat} {l : List Ent} {Bs : List Int} (hE : EntRow w F LA l) (hV : IntF w F BA Bs) (hfit : FitP l Bs) :
    Calls Tryz.prog 156 #[.agg #[.int .i64 l.length, .int .i64 0, .slice LA l.length lc, .slice BA Bs.length bc]] w (OkB w true) := by
  have hb : Betw 1024 [(l.length : Int), 0, l.length, Bs.length] = true := by
    have := hfit.ll; have := hfit.bl
    simp [Betw]
    omega
  have hP0 : Blk (w.alloc (Obj.cells #[.int .i64 l.length, .int .i64 0, .slice LA l.length lc, .slice BA Bs.length bc] 60)) w.heap.size 60 #[.int .i64 l.length, .int .i64 0, .slice LA l.length lc, .slice BA Bs.length bc] := Blk.new _ _ _
  have hf0 : Fr (fun _ => False) w (w.alloc (Obj.cells #[.int .i64 l.length, .int .i64 0, .slice LA l.length lc, .slice BA Bs.length bc] 60)) := (Fr.refl _ _).alloc _
  go_enter Tryz.func156, Tryz.ntmps156
  go_upto_region 1 with fail
  generalize w.alloc (Obj.cells #[.int .i64 l.length, .int .i64 0, .slice LA l.length lc, .slice BA Bs.length bc] 60) = w0 at *
  have c0 := hP0.cell 0
  have c1 := hP0.cell 1
  have c2 := hP0.cell 2
  have c3 := hP0.cell 3
  have hI : Blk (w0.alloc (Obj.cells #[.int .i64 l.length, .int .i64 0, .int .i64 l.length, .int .i64 Bs.length] 3)) w0.heap.size 3 (intsA [(l.length : Int), 0, l.length, Bs.length]) := Blk.new _ _ _
  have hf1 : Fr (fun _ => False) w0 (w0.alloc (Obj.cells #[.int .i64 l.length, .int .i64 0, .int .i64 l.length, .int .i64 Bs.length] 3)) := (Fr.refl _ _).alloc _
  have HB : Hid (Calls Tryz.prog 125 #[.int .i64 1024, .slice (some ⟨w0.heap.size, 0, none⟩) 4 4] (w0.alloc (Obj.cells #[.int .i64 l.length, .int .i64 0, .int .i64 l.length, .int .i64 Bs.length] 3)) fun e w' => e = .returned (.bool true) ∧ (w0.alloc (Obj.cells #[.int .i64 l.length, .int .i64 0, .int .i64 l.length, .int .i64 Bs.length] 3)) = w') := by
    have := say_betweenAll (cap := 4) (intRow_blk hI) (by simp) (by simp) 1024
    rw [hb] at this
    exact this
  have hP1 := hP0.fr hf1 id
  have d2 := hP1.cell 2
  have hf01 := hf0.then_ hf1
  have HE1 := Lib.hid (containsEnt (cap := lc) (hE.fr hf01 (fun _ _ => id)) (by have := hfit.ll; omega) hfit.long)
  have HV1 := Lib.hid (fun w' (hf : Fr (fun _ => False) w w') => containsInt (cap := bc) (hV.fr hf (fun _ _ => id)) (by have := hfit.bl; omega) hfit.d)
  clear hI hb hE hV hfit hP0
  go_wp2_with (first
    | (go_at_call 125; refine HB.out.mono ?_; rintro e w1 ⟨rfl, rfl⟩)
    | (go_at_call 181; refine HE1.out.mono ?_; rintro e w2 ⟨rfl, hf2⟩; have d3 := (hP1.fr hf2 id).cell 3; have hf02 := hf01.then_ hf2)
    | (go_at_call 182; refine (HV1.out _ hf02).mono ?_; rintro e w3 ⟨rfl, hf3⟩))
  go_ret
  exact ⟨rfl, hf02.then_ hf3⟩
end Go.Proofs.YtmkdhhhoodeemaaGreat

/- say: PutOrder of an order with a proof. -/
namespace Go.Proofs.YtmkdhhhoodeemaaGreat
open Go Go.RowKit
set_option maxRecDepth 100000 in
set_option maxHeartbeats 4000000 in
theorem say_PutOrder_okP {w : World} {PA QA : Option Addr} {pc qc : Nat} {l : List Ent} {Bs : List Int} (hE : EntRow w (fun k => k < w.heap.size) PA l) (hV : IntF w (fun k => k < w.heap.size) QA Bs) (hlk : ∀ x ∈ l, x.1.size ≤ 16 ∧ x.2.1.size ≤ 64) (hll : l.length ≤ 1024) (hBs : Bs.length ≤ 1024) {kind c n : Int} {A B : Option Addr} {nr cr nw cw : Nat} {s : SayD} {G D : Int} {C : Option Addr} {nx cx : Nat} {t0 t1 t2 : List Int} (hl0 : t0.length ≤ 65536) (hl1 : t1.length ≤ 65536) (hl2 : t2.length ≤ 65536)
    (hT : ∀ w', Fr (fun _ => False) w w' → Calls Tryz.prog 123 #[.agg #[.int .i64 kind, .int .i64 c, .int .i64 n, .slice A nr cr, .slice B nw cw, .int .i64 s.kind, .int .i64 s.txn, .bool s.yes, .string s.from_, .string s.to_, .int .i64 s.epoch, .int .i64 s.shard, .int .i64 s.target, .int .i64 s.root, .int .i64 G, .int .i64 D, .slice C nx cx, .int .i64 l.length, .int .i64 0, .slice PA l.length pc, .slice QA Bs.length qc]] w' (TextsP w' t0 t1 t2)) :
    Calls Tryz.prog 95 #[.agg #[.int .i64 kind, .int .i64 c, .int .i64 n, .slice A nr cr, .slice B nw cw, .int .i64 s.kind, .int .i64 s.txn, .bool s.yes, .string s.from_, .string s.to_, .int .i64 s.epoch, .int .i64 s.shard, .int .i64 s.target, .int .i64 s.root, .int .i64 G, .int .i64 D, .slice C nx cx, .int .i64 l.length, .int .i64 0, .slice PA l.length pc, .slice QA Bs.length qc]] w (PutP w (ordB kind t0 t1 t2 l.length 0 l Bs) .nilIface) := by
  have HT := Lib.hid hT
  have HE := Lib.hid hE
  have HV := Lib.hid hV
  have HK := Lib.hid hlk
  have HEB : Hid (∀ x ∈ l, (entB x).length ≤ 96) := fun x hx => by
    have := hlk x hx
    unfold entB
    rw [List.length_append, List.length_append, textB_len, textB_len, num8_length]
    omega
  clear hT hE hV hlk
  have hB0 := Blk.new w 62 #[.int .i64 kind, .int .i64 c, .int .i64 n, .slice A nr cr, .slice B nw cw, .int .i64 s.kind, .int .i64 s.txn, .bool s.yes, .string s.from_, .string s.to_, .int .i64 s.epoch, .int .i64 s.shard, .int .i64 s.target, .int .i64 s.root, .int .i64 G, .int .i64 D, .slice C nx cx, .int .i64 l.length, .int .i64 0, .slice PA l.length pc, .slice QA Bs.length qc]
  have hf0 : Fr (fun _ => False) w (w.alloc (Obj.cells #[.int .i64 kind, .int .i64 c, .int .i64 n, .slice A nr cr, .slice B nw cw, .int .i64 s.kind, .int .i64 s.txn, .bool s.yes, .string s.from_, .string s.to_, .int .i64 s.epoch, .int .i64 s.shard, .int .i64 s.target, .int .i64 s.root, .int .i64 G, .int .i64 D, .slice C nx cx, .int .i64 l.length, .int .i64 0, .slice PA l.length pc, .slice QA Bs.length qc] 62)) := (Fr.refl _ _).alloc _
  go_enter Tryz.func95, Tryz.ntmps95
  go_upto_region 1 with fail
  generalize w.alloc (Obj.cells #[.int .i64 kind, .int .i64 c, .int .i64 n, .slice A nr cr, .slice B nw cw, .int .i64 s.kind, .int .i64 s.txn, .bool s.yes, .string s.from_, .string s.to_, .int .i64 s.epoch, .int .i64 s.shard, .int .i64 s.target, .int .i64 s.root, .int .i64 G, .int .i64 D, .slice C nx cx, .int .i64 l.length, .int .i64 0, .slice PA l.length pc, .slice QA Bs.length qc] 62) = w0 at *
  go_wp2_with (refine wpList_load_row rfl 62 _ rfl _ rfl _ _ (0, 0) _ hB0 Tryz.underlying62 rfl (by kernel_rfl) ?_)
  refine (HT.out _ hf0).mono ?_
  rintro e w1 ⟨u0, u1, u2, rfl, hu0, hu1, hu2, hf01⟩
  obtain ⟨A0, c0, rfl, _, hr0⟩ := hu0.form
  obtain ⟨A1, c1, rfl, _, hr1⟩ := hu1.form
  obtain ⟨A2, c2, rfl, _, hr2⟩ := hu2.form
  have hr0 := hr0.mono (F' := fun k => k < w1.heap.size + 1) (fun k hk => Nat.lt_succ_of_lt (hu0.lt k hk))
  have hr1 := hr1.mono (F' := fun k => k < w1.heap.size + 1) (fun k hk => Nat.lt_succ_of_lt (hu1.lt k hk))
  have hr2 := hr2.mono (F' := fun k => k < w1.heap.size + 1) (fun k hk => Nat.lt_succ_of_lt (hu2.lt k hk))
  have hB1 := hB0.fr hf01 id
  have hf1 := hf0.then_ hf01
  clear hB0 hf0 hu0 hu1 hu2 hf01
  obtain ⟨gB, hgB⟩ : ∃ g, Hid (w.heap.size = g) := ⟨_, rfl⟩
  obtain ⟨g, hg⟩ : ∃ g, Hid (w1.heap.size + 1 = g) := ⟨_, rfl⟩
  have hsg : w.heap.size ≤ g := by rw [← hg.out]; exact Nat.le_succ_of_le hf1.size
  obtain ⟨b0, hb0⟩ : ∃ b : List Int, Hid (([] : List Int) = b) := ⟨_, rfl⟩
  have hbl0 : b0.length = 0 := by rw [← hb0.out]; rfl
  have hR2 : Blk ((w1.alloc (Obj.cells #[.slice A0 t0.length c0, .slice A1 t1.length c1, .slice A2 t2.length c2] 214)).alloc (Obj.cells #[.slice none 0 0, .nilIface] 194)) w1.heap.size 214 #[.slice A0 t0.length c0, .slice A1 t1.length c1, .slice A2 t2.length c2] := (Blk.new _ _ _).alloc _
  have hW2 : WriterAt ((w1.alloc (Obj.cells #[.slice A0 t0.length c0, .slice A1 t1.length c1, .slice A2 t2.length c2] 214)).alloc (Obj.cells #[.slice none 0 0, .nilIface] 194)) (w1.heap.size + 1) (w1.heap.size + 1) (.slice none 0 0) b0 none := by rw [← hb0.out]; exact ⟨Blk.new_ _ _ _ (by simp), Own8.nil _ _⟩
  have hB2 := (hB1.alloc (Obj.cells #[.slice A0 t0.length c0, .slice A1 t1.length c1, .slice A2 t2.length c2] 214)).alloc (Obj.cells #[.slice none 0 0, .nilIface] 194)
  have hf2 := (hf1.alloc (Obj.cells #[.slice A0 t0.length c0, .slice A1 t1.length c1, .slice A2 t2.length c2] 214)).alloc (Obj.cells #[.slice none 0 0, .nilIface] 194)
  have hz2 : w1.heap.size + 1 ≤ ((w1.alloc (Obj.cells #[.slice A0 t0.length c0, .slice A1 t1.length c1, .slice A2 t2.length c2] 214)).alloc (Obj.cells #[.slice none 0 0, .nilIface] 194)).heap.size := by simp
  have hr0 := (hr0.fr ((Fr.refl (fun _ => False) w1).alloc (Obj.cells #[.slice A0 t0.length c0, .slice A1 t1.length c1, .slice A2 t2.length c2] 214)) (fun _ _ => id)).fr ((Fr.refl (fun _ => False) _).alloc (Obj.cells #[.slice none 0 0, .nilIface] 194)) (fun _ _ => id)
  have hr1 := (hr1.fr ((Fr.refl (fun _ => False) w1).alloc (Obj.cells #[.slice A0 t0.length c0, .slice A1 t1.length c1, .slice A2 t2.length c2] 214)) (fun _ _ => id)).fr ((Fr.refl (fun _ => False) _).alloc (Obj.cells #[.slice none 0 0, .nilIface] 194)) (fun _ _ => id)
  have hr2 := (hr2.fr ((Fr.refl (fun _ => False) w1).alloc (Obj.cells #[.slice A0 t0.length c0, .slice A1 t1.length c1, .slice A2 t2.length c2] 214)) (fun _ _ => id)).fr ((Fr.refl (fun _ => False) _).alloc (Obj.cells #[.slice none 0 0, .nilIface] 194)) (fun _ _ => id)
  have hc2 := hB2.cell 0
  clear hB1 hf1
  go_upto_region 5 with fail
  rw [hg.out] at hW2 hz2 hr0 hr1 hr2 ⊢
  generalize ((w1.alloc (Obj.cells #[.slice A0 t0.length c0, .slice A1 t1.length c1, .slice A2 t2.length c2] 214)).alloc (Obj.cells #[.slice none 0 0, .nilIface] 194)) = w2 at *
  have hl : Hid (t0.length ≤ 65536 ∧ t1.length ≤ 65536 ∧ t2.length ≤ 65536) := ⟨hl0, hl1, hl2⟩
  clear hl0 hl1 hl2
  go_wp2_with fail
  refine (writer_Num hW2 hz2 (by omega) kind).mono ?_
  rintro e w3 ⟨v3, rfl, hW3, hq3, _⟩
  have hW3 : WriterAt w3 g g v3 (b0 ++ num8 kind) none := hW3
  obtain ⟨b1, hb1⟩ : ∃ b, Hid (b0 ++ num8 kind = b) := ⟨_, rfl⟩
  rw [hb1.out] at hW3
  have hbl1 : b1.length = 8 := by rw [← hb1.out, List.length_append, hbl0]; simp [num8_length]
  have hB3 := wrote_blk hB2 hW2.blk hW2.own hq3 (by decide) (by decide)
  have hR3 := wrote_blk hR2 hW2.blk hW2.own hq3 (by decide) (by decide)
  have hr0 := wrote_row hr0 hW2.own hq3
  have hr1 := wrote_row hr1 hW2.own hq3
  have hr2 := wrote_row hr2 hW2.own hq3
  have hf3 := wrote_fr hf2 hW2.own hsg hsg hq3
  clear hq3 hW2 hB2 hR2 hf2 hc2 hz2
  have hcr0 := hR3.cell 0
  have hcr1 := hR3.cell 1
  have hcr2 := hR3.cell 2
  go_upto_region 7 with fail
  clear hcr0 hcr1 hcr2 hR3
  go_loopw [36] (fun ix wr => ∃ (q : Nat) (v : Value), ((q = 0 ∧ ix = .int .i64 0) ∨ (q = 1 ∧ ix = .int .i64 1) ∨ (q = 2 ∧ ix = .int .i64 2) ∨ (q = 3 ∧ ix = .int .i64 3)) ∧ WriterAt wr g g v (b1 ++ ([t0, t1, t2].take q).flatMap textB) none ∧ Blk wr w.heap.size 62 #[.int .i64 kind, .int .i64 c, .int .i64 n, .slice A nr cr, .slice B nw cw, .int .i64 s.kind, .int .i64 s.txn, .bool s.yes, .string s.from_, .string s.to_, .int .i64 s.epoch, .int .i64 s.shard, .int .i64 s.target, .int .i64 s.root, .int .i64 G, .int .i64 D, .slice C nx cx, .int .i64 l.length, .int .i64 0, .slice PA l.length pc, .slice QA Bs.length qc] ∧ ByteRow wr (fun k => k < g) A0 t0 ∧ ByteRow wr (fun k => k < g) A1 t1 ∧ ByteRow wr (fun k => k < g) A2 t2 ∧ Fr (fun _ => False) w wr) (fun ix _ => 3 - (intOf ix).toNat)
  case atStart => exact ⟨0, _, .inl ⟨rfl, rfl⟩, by rw [List.take_zero, List.flatMap_nil, List.append_nil]; exact hW3, hB3, hr0, hr1, hr2, hf3⟩
  case round =>
    clear hW3 hB3 hr0 hr1 hr2 hf3
    obtain ⟨q, v4, hix, hW4, hB4, hr0, hr1, hr2, hf4⟩ := hrel
    have hz4 : g ≤ wr.heap.size := Nat.le_of_lt hW4.blk.lt
    have hfl : ∀ q, q ≤ 3 → (b1 ++ ([t0, t1, t2].take q).flatMap textB).length ≤ 300000 := by
      intro q hq
      have := hl.out
      match q, hq with
      | 0, _ => simp; omega
      | 1, _ => simp [textB, count4_length]; omega
      | 2, _ => simp [textB, count4_length]; omega
      | 3, _ => simp [textB, count4_length]; omega
    have HFL := Lib.hid hfl
    clear hfl
    rcases hix with ⟨rfl, rfl⟩ | ⟨rfl, rfl⟩ | ⟨rfl, rfl⟩ | ⟨rfl, rfl⟩
    · have HX : Hid ([t0, t1, t2][0]? = some t0) := rfl
      have i0 : ∀ w, (Instr.index 214 (.agg #[.slice A0 t0.length c0, .slice A1 t1.length c1, .slice A2 t2.length c2]) (.int .i64 0)).run Tryz.prog w = .ok (.slice A0 t0.length c0) w := fun _ => by kernel_rfl
      have HTx := writer_Text (cap := c0) hW4 hz4 hr0 (wrote_hA hW4.own) (by have := HFL.out 0 (by omega); have := hl.out; omega)
      rw [if_pos (by have := hl.out; omega)] at HTx
      have HTx := Lib.hid HTx
      go_wp2_with (go_at_call 99; refine HTx.out.mono ?_; rintro e wn ⟨vn, rfl, hWn, hqn, _⟩)
      have hBn := wrote_blk hB4 hW4.blk hW4.own hqn (by decide) (by decide)
      have hn0 := wrote_row hr0 hW4.own hqn
      have hn1 := wrote_row hr1 hW4.own hqn
      have hn2 := wrote_row hr2 hW4.own hqn
      have hfn := wrote_fr hf4 hW4.own hsg hsg hqn
      have hWn : WriterAt wn g g vn ((b1 ++ ([t0, t1, t2].take 0).flatMap textB) ++ textB t0) none := hWn
      go_roundw
      case rel => exact ⟨0 + 1, vn, Or.inr (Or.inl ⟨rfl, by go_num⟩), by rw [flat_take textB HX.out, ← List.append_assoc]; exact hWn, hBn, hn0, hn1, hn2, hfn⟩
      case measure => simp [intOf] <;> omega
    · have HX : Hid ([t0, t1, t2][1]? = some t1) := rfl
      have i1 : ∀ w, (Instr.index 214 (.agg #[.slice A0 t0.length c0, .slice A1 t1.length c1, .slice A2 t2.length c2]) (.int .i64 1)).run Tryz.prog w = .ok (.slice A1 t1.length c1) w := fun _ => by kernel_rfl
      have HTx := writer_Text (cap := c1) hW4 hz4 hr1 (wrote_hA hW4.own) (by have := HFL.out 1 (by omega); have := hl.out; omega)
      rw [if_pos (by have := hl.out; omega)] at HTx
      have HTx := Lib.hid HTx
      go_wp2_with (go_at_call 99; refine HTx.out.mono ?_; rintro e wn ⟨vn, rfl, hWn, hqn, _⟩)
      have hBn := wrote_blk hB4 hW4.blk hW4.own hqn (by decide) (by decide)
      have hn0 := wrote_row hr0 hW4.own hqn
      have hn1 := wrote_row hr1 hW4.own hqn
      have hn2 := wrote_row hr2 hW4.own hqn
      have hfn := wrote_fr hf4 hW4.own hsg hsg hqn
      have hWn : WriterAt wn g g vn ((b1 ++ ([t0, t1, t2].take 1).flatMap textB) ++ textB t1) none := hWn
      go_roundw
      case rel => exact ⟨1 + 1, vn, Or.inr (Or.inr (Or.inl ⟨rfl, by go_num⟩)), by rw [flat_take textB HX.out, ← List.append_assoc]; exact hWn, hBn, hn0, hn1, hn2, hfn⟩
      case measure => simp [intOf] <;> omega
    · have HX : Hid ([t0, t1, t2][2]? = some t2) := rfl
      have i2 : ∀ w, (Instr.index 214 (.agg #[.slice A0 t0.length c0, .slice A1 t1.length c1, .slice A2 t2.length c2]) (.int .i64 2)).run Tryz.prog w = .ok (.slice A2 t2.length c2) w := fun _ => by kernel_rfl
      have HTx := writer_Text (cap := c2) hW4 hz4 hr2 (wrote_hA hW4.own) (by have := HFL.out 2 (by omega); have := hl.out; omega)
      rw [if_pos (by have := hl.out; omega)] at HTx
      have HTx := Lib.hid HTx
      go_wp2_with (go_at_call 99; refine HTx.out.mono ?_; rintro e wn ⟨vn, rfl, hWn, hqn, _⟩)
      have hBn := wrote_blk hB4 hW4.blk hW4.own hqn (by decide) (by decide)
      have hn0 := wrote_row hr0 hW4.own hqn
      have hn1 := wrote_row hr1 hW4.own hqn
      have hn2 := wrote_row hr2 hW4.own hqn
      have hfn := wrote_fr hf4 hW4.own hsg hsg hqn
      have hWn : WriterAt wn g g vn ((b1 ++ ([t0, t1, t2].take 2).flatMap textB) ++ textB t2) none := hWn
      go_roundw
      case rel => exact ⟨2 + 1, vn, Or.inr (Or.inr (Or.inr ⟨rfl, by go_num⟩)), by rw [flat_take textB HX.out, ← List.append_assoc]; exact hWn, hBn, hn0, hn1, hn2, hfn⟩
      case measure => simp [intOf] <;> omega
    · obtain ⟨b2, hb2⟩ : ∃ b, Hid (b1 ++ ([t0, t1, t2].take 3).flatMap textB = b) := ⟨_, rfl⟩
      have hbl2 : b2.length ≤ 300000 := by rw [← hb2.out]; exact HFL.out 3 (by omega)
      rw [hb2.out] at hW4
      clear HFL hr0 hr1 hr2
      generalize wr = w4 at *
      have hk17 := hB4.cell 17
      have hk18 := hB4.cell 18
      have hk19 := hB4.cell 19
      go_upto_region 11 with fail
      have hW5 := hW4.fr ((Fr.refl (fun _ => False) w4).alloc (Obj.cells #[.int .i64 l.length, .int .i64 0, .int .i64 l.length] 3)) id (fun _ _ => id)
      have hB5 := hB4.alloc (Obj.cells #[.int .i64 l.length, .int .i64 0, .int .i64 l.length] 3)
      have hS5 : Blk (w4.alloc (Obj.cells #[.int .i64 l.length, .int .i64 0, .int .i64 l.length] 3)) w4.heap.size 3 (intsA [(l.length : Int), 0, l.length]) := Blk.new _ _ _
      have hf5 := hf4.alloc (Obj.cells #[.int .i64 l.length, .int .i64 0, .int .i64 l.length] 3)
      have hz5 : g ≤ (w4.alloc (Obj.cells #[.int .i64 l.length, .int .i64 0, .int .i64 l.length] 3)).heap.size := Nat.le_trans hz4 (by simp)
      go_upto_region 12 with fail
      clear hW4 hB4 hf4 hz4 hk17 hk18 hk19
      obtain ⟨gs, hgs⟩ : ∃ g, Hid (w4.heap.size = g) := ⟨_, rfl⟩
      rw [hgs.out] at hS5 ⊢
      generalize w4.alloc (Obj.cells #[.int .i64 l.length, .int .i64 0, .int .i64 l.length] 3) = w5 at *
      go_loopw [55] (fun ix wr => ∃ (q : Nat) (v : Value), q ≤ 3 ∧ ix = .int .i64 q ∧ WriterAt wr g g v (b2 ++ ([(l.length : Int), 0, l.length].take q).flatMap num8) none ∧ Blk wr w.heap.size 62 #[.int .i64 kind, .int .i64 c, .int .i64 n, .slice A nr cr, .slice B nw cw, .int .i64 s.kind, .int .i64 s.txn, .bool s.yes, .string s.from_, .string s.to_, .int .i64 s.epoch, .int .i64 s.shard, .int .i64 s.target, .int .i64 s.root, .int .i64 G, .int .i64 D, .slice C nx cx, .int .i64 l.length, .int .i64 0, .slice PA l.length pc, .slice QA Bs.length qc] ∧ Blk wr gs 3 (intsA [(l.length : Int), 0, l.length]) ∧ Fr (fun _ => False) w wr) (fun ix _ => 3 - (intOf ix).toNat)
      case atStart => exact ⟨0, v4, by omega, rfl, by rw [List.take_zero, List.flatMap_nil, List.append_nil]; exact hW5, hB5, hS5, hf5⟩
      case round =>
        clear hW5 hB5 hS5 hf5 hz5
        obtain ⟨q, v6, hq, rfl, hW6, hB6, hS6, hf6⟩ := hrel
        have hz6 : g ≤ wr.heap.size := Nat.le_of_lt hW6.blk.lt
        by_cases hlt : q < 3
        · obtain ⟨x, hx⟩ : ∃ x, [(l.length : Int), 0, l.length][q]? = some x := ⟨[(l.length : Int), 0, l.length][q]'(by simpa using hlt), List.getElem?_eq_getElem _⟩
          have hcx := hS6.cell q
          rw [intsA_at hx] at hcx
          have HX := Lib.hid hx
          have hlf : (b2 ++ ([(l.length : Int), 0, l.length].take q).flatMap num8).length ≤ 310000 := by
            have h1 := flat_num8 ([(l.length : Int), 0, l.length].take q)
            rw [List.length_append, h1, List.length_take]
            omega
          clear hx
          go_wp2_with (go_at_call 98; refine (writer_Num hW6 hz6 (by omega) x).mono ?_; rintro e wn ⟨vn, rfl, hWn, hqn, _⟩)
          have hBn := wrote_blk hB6 hW6.blk hW6.own hqn (by decide) (by decide)
          have hSn := wrote_blk hS6 hW6.blk hW6.own hqn (by decide) (by decide)
          have hfn := wrote_fr hf6 hW6.own hsg hsg hqn
          go_roundw
          case rel => exact ⟨q + 1, vn, by omega, by go_num, by rw [flat_take num8 HX.out, ← List.append_assoc]; exact hWn, hBn, hSn, hfn⟩
          case measure => simp [intOf]; omega
        · obtain rfl : q = 3 := by omega
          obtain ⟨b3, hb3⟩ : ∃ b, Hid (b2 ++ ([(l.length : Int), 0, l.length].take 3).flatMap num8 = b) := ⟨_, rfl⟩
          rw [hb3.out] at hW6
          have hbl3 : b3.length = b2.length + 24 := by rw [← hb3.out, List.length_append, flat_num8]; rfl
          clear hS6
          generalize wr = w6 at *
          have hk19 := hB6.cell 19
          have hk20 := hB6.cell 20
          have hW6' := hW6
          clear hW6
          go_upto_region 17 with fail
          have hb3l : b3.length ≤ 310100 := by omega
          clear hk19 hk20
          go_loopw [67] (fun ix wr => ∃ (q : Nat) (v : Value), q ≤ l.length ∧ ix = .int .i64 q ∧ WriterAt wr g g v (b3 ++ (l.take q).flatMap entB) none ∧ Blk wr w.heap.size 62 #[.int .i64 kind, .int .i64 c, .int .i64 n, .slice A nr cr, .slice B nw cw, .int .i64 s.kind, .int .i64 s.txn, .bool s.yes, .string s.from_, .string s.to_, .int .i64 s.epoch, .int .i64 s.shard, .int .i64 s.target, .int .i64 s.root, .int .i64 G, .int .i64 D, .slice C nx cx, .int .i64 l.length, .int .i64 0, .slice PA l.length pc, .slice QA Bs.length qc] ∧ Fr (fun _ => False) w wr) (fun ix _ => l.length - (intOf ix).toNat)
          case atStart => exact ⟨0, v6, by omega, rfl, by rw [List.take_zero, List.flatMap_nil, List.append_nil]; exact hW6', hB6, hf6⟩
          case round =>
            clear hW6' hB6 hf6
            obtain ⟨q, v6, hq, rfl, hW6, hB6, hf6⟩ := hrel
            have hz6 : g ≤ wr.heap.size := Nat.le_of_lt hW6.blk.lt
            have hlf := flat_take_le HEB.out hll q
            have hlf : (b3 ++ (l.take q).flatMap entB).length ≤ 410000 := by rw [List.length_append]; omega
            by_cases hlt : q < l.length
            · obtain ⟨x, hx⟩ : ∃ x, l[q]? = some x := ⟨l[q], List.getElem?_eq_getElem hlt⟩
              obtain ⟨b, o, rfl, _, d0, d1, d2⟩ := (HE.out.fr hf6 (fun _ _ => id)) q x hx
              have HX := Lib.hid hx
              have hx16 := HK.out x (List.mem_of_getElem? hx)
              have hx64 := hx16.2
              have hx16 := hx16.1
              have hlt' : (q : Int) < (l.length : Int) := by omega
              clear hx
              obtain ⟨bq, hbq⟩ : ∃ b, Hid (b3 ++ (l.take q).flatMap entB = b) := ⟨_, rfl⟩
              rw [hbq.out] at hW6 hlf
              go_upto_region 19 with fail
              have hW7 := hW6.fr ((Fr.refl (fun _ => False) wr).alloc (Obj.cells #[.string x.1, .string x.2.1, .int .i64 x.2.2] 119)) id (fun _ _ => id)
              have hB7 := hB6.alloc (Obj.cells #[.string x.1, .string x.2.1, .int .i64 x.2.2] 119)
              have hX7 : Blk (wr.alloc (Obj.cells #[.string x.1, .string x.2.1, .int .i64 x.2.2] 119)) wr.heap.size 119 #[.string x.1, .string x.2.1, .int .i64 x.2.2] := Blk.new wr _ _
              have hf7 := hf6.alloc (Obj.cells #[.string x.1, .string x.2.1, .int .i64 x.2.2] 119)
              have hz7 : g ≤ (wr.alloc (Obj.cells #[.string x.1, .string x.2.1, .int .i64 x.2.2] 119)).heap.size := Nat.le_trans hz6 (by simp)
              generalize wr.alloc (Obj.cells #[.string x.1, .string x.2.1, .int .i64 x.2.2] 119) = w7 at *
              obtain ⟨gx, hgx⟩ : ∃ y, wr.heap.size = y := ⟨_, rfl⟩
              rw [hgx] at hX7 ⊢
              clear hW6 hB6 hf6 hz6 d0 d1 d2 hgx
              have y0 := hX7.cell 0
              have hcs7 := run_str w7 x.1
              have hws7 := hW7.fr (strW_fr w7 x.1) id (fun _ _ => id)
              have hbs7 := hB7.fr (strW_fr w7 x.1) id
              have hxs7 := hX7.fr (strW_fr w7 x.1) id
              have hfs7 := hf7.then_ (strW_fr w7 x.1)
              have hzs7 : g ≤ (strW w7 x.1).heap.size := Nat.le_trans hz7 (strW_fr w7 x.1).size
              have HT7 := writer_Text (cap := grownCap w7 x.1.size 0 5) hws7 hzs7 (strW_row w7 x.1) (fun k e1 e2 => own8_new hW7.own (e1 ▸ e2)) (by rw [bytesOf_length]; omega)
              rw [bytesOf_length, if_pos (by omega)] at HT7
              have HT7 := Lib.hid HT7
              go_upto_region 20 with (go_at_call 99; refine HT7.out.mono ?_; rintro e w8 ⟨v8, rfl, hW8, hq8, _⟩)
              have hW8 : WriterAt w8 g g v8 (bq ++ textB (bytesOf x.1)) none := hW8
              have hB8 := wrote_blk hbs7 hws7.blk hws7.own hq8 (by decide) (by decide)
              have hX8 := wrote_blk hxs7 hws7.blk hws7.own hq8 (by decide) (by decide)
              have hf8 := wrote_fr hfs7 hws7.own hsg hsg hq8
              have hz8 : g ≤ w8.heap.size := Nat.le_of_lt hW8.blk.lt
              clear hq8 hW7 hB7 hf7 hws7 hbs7 hfs7 HT7 hzs7 hz7 hxs7 hX7 hcs7 y0
              have y1 := hX8.cell 1
              have hlb : (bq ++ textB (bytesOf x.1)).length ≤ 410020 := by rw [List.length_append, textB_len]; omega
              obtain ⟨bt, hbt⟩ : ∃ b, Hid ((bq ++ textB (bytesOf x.1)) = b) := ⟨_, rfl⟩
              rw [hbt.out] at hW8 hlb
              have hcs8 := run_str w8 x.2.1
              have hws8 := hW8.fr (strW_fr w8 x.2.1) id (fun _ _ => id)
              have hbs8 := hB8.fr (strW_fr w8 x.2.1) id
              have hxs8 := hX8.fr (strW_fr w8 x.2.1) id
              have hfs8 := hf8.then_ (strW_fr w8 x.2.1)
              have hzs8 : g ≤ (strW w8 x.2.1).heap.size := Nat.le_trans hz8 (strW_fr w8 x.2.1).size
              have HT8 := writer_Text (cap := grownCap w8 x.2.1.size 0 5) hws8 hzs8 (strW_row w8 x.2.1) (fun k e1 e2 => own8_new hW8.own (e1 ▸ e2)) (by rw [bytesOf_length]; omega)
              rw [bytesOf_length, if_pos (by omega)] at HT8
              have HT8 := Lib.hid HT8
              go_upto_region 21 with (go_at_call 99; refine HT8.out.mono ?_; rintro e w9 ⟨v9, rfl, hW9, hq9, _⟩)
              have hW9 : WriterAt w9 g g v9 (bt ++ textB (bytesOf x.2.1)) none := hW9
              have hB9 := wrote_blk hbs8 hws8.blk hws8.own hq9 (by decide) (by decide)
              have hX9 := wrote_blk hxs8 hws8.blk hws8.own hq9 (by decide) (by decide)
              have hf9 := wrote_fr hfs8 hws8.own hsg hsg hq9
              have hz9 : g ≤ w9.heap.size := Nat.le_of_lt hW9.blk.lt
              clear hq9 hW8 hB8 hf8 hws8 hbs8 hfs8 HT8 hzs8 hz8 hxs8 hX8 hcs8 y1
              have y2 := hX9.cell 2
              have hlc : (bt ++ textB (bytesOf x.2.1)).length ≤ 410100 := by rw [List.length_append, textB_len]; omega
              obtain ⟨bu, hbu⟩ : ∃ b, Hid ((bt ++ textB (bytesOf x.2.1)) = b) := ⟨_, rfl⟩
              rw [hbu.out] at hW9 hlc
              go_wp2_with (go_at_call 98; refine (writer_Num hW9 hz9 (by omega) x.2.2).mono ?_; rintro e wn ⟨vn, rfl, hWn, hqn, _⟩)
              have hWn : WriterAt wn g g vn (bu ++ num8 x.2.2) none := hWn
              have hBn := wrote_blk hB9 hW9.blk hW9.own hqn (by decide) (by decide)
              have hfn := wrote_fr hf9 hW9.own hsg hsg hqn
              refine ⟨⟨_, _, _, _, _, _, _, _, _, _, _, _, _, _, _, _, _, _, _, _, ?_, rfl⟩, ?_⟩
              · exact ⟨q + 1, _, by omega, by go_num, by rw [flat_take entB HX.out, entB, ← List.append_assoc, ← List.append_assoc, ← List.append_assoc, hbq.out, hbt.out, hbu.out]; exact hWn, hBn, hfn⟩
              · simp [intOf]; omega
            · obtain rfl : q = l.length := by omega
              rw [List.take_length] at hW6 hlf
              obtain ⟨b4, hb4⟩ : ∃ b, Hid (b3 ++ l.flatMap entB = b) := ⟨_, rfl⟩
              rw [hb4.out] at hW6 hlf
              have hk20 := hB6.cell 20
              go_upto_region 25 with fail
              generalize wr = w7 at *
              go_loopw [13, 90] (fun bs ix w0 => ∃ q : Nat, q ≤ Bs.length ∧ ix = .int .i64 q ∧ w0.ownsRow w7.heap.size 2 1 bs q (num64V (Bs.take q)) ∧ Fr (fun _ => False) w7 w0) (fun _ ix _ => Bs.length - (intOf ix).toNat)
              case atStart => exact ⟨0, by omega, rfl, World.ownsRow_nil _ _ _ _, Fr.refl _ _⟩
              case round =>
                obtain ⟨q, hq, rfl, hown, hf⟩ := hrel
                by_cases hlt : q < Bs.length
                · obtain ⟨x, hx⟩ : ∃ x, Bs[q]? = some x := ⟨Bs[q], List.getElem?_eq_getElem hlt⟩
                  obtain ⟨b, o, rfl, hb, hc⟩ := (HV.out.fr (hf6.then_ hf) (fun _ _ => id)) q x hx
                  have HX := Lib.hid hx
                  have hlt' : (q : Int) < (Bs.length : Int) := by omega
                  clear hx
                  go_wp2_with (at_builtin; refine wpList_append1 _ rfl _ _ _ rfl w7.heap.size 2 (.int .i64 0) 8 Tryz.underlying132 int64_info rfl u13 q (num64V (Bs.take q)) rfl (hown.alloc _) wr.heap.size (.int .i64 x) rfl ?_ rfl (by omega) (by omega) ?_ ?_; (· simp); (· have := hf.size; simp; omega); intro g3 c3 w3 hown3 hf3)
                  have hfb : Fr (fun k => u13.ownBlock = some k) wr w3 := ((Fr.refl (fun k => u13.ownBlock = some k) wr).alloc _).trans hf3 (fun _ _ h => h)
                  have e1 : num64V (Bs.take (q + 1)) = num64V (Bs.take q) ++ [.int .i64 x] := by
                    obtain ⟨h1, h2⟩ := List.getElem?_eq_some_iff.1 HX.out
                    rw [List.take_succ_eq_append_getElem h1, h2, num64V, num64V, List.map_append]
                    rfl
                  refine ⟨⟨_, _, _, _, _, _, _, _, _, _, _, ?_, rfl⟩, ?_⟩
                  · exact ⟨q + 1, by omega, by go_num, by rw [e1]; exact hown3, hf.own hown hfb (Nat.le_refl _)⟩
                  · simp [intOf]; omega
                · obtain rfl : q = Bs.length := by omega
                  rw [List.take_length] at hown
                  obtain ⟨A5, cap5, rfl, hr5⟩ := NumRow.of_own hown
                  have hW7 := hW6.fr hf id (fun _ _ => id)
                  have hB7 := hB6.fr hf id
                  have hf7 := hf6.then_ hf
                  have hz7 : g ≤ wr.heap.size := Nat.le_trans hz6 hf.size
                  have hA := own_ne_own hown hW7.own (by decide)
                  have HN := writer_Nums (cap := cap5) hW7 hz7 hr5 hA (by omega) (.inl (by rw [numsB, List.length_append, count4_length, flat_num8]; omega))
                  rw [if_pos hBs] at HN
                  replace HN := Lib.hid HN
                  have hbl4 : (b4 ++ numsB Bs).length ≤ 1099511627776 := by rw [List.length_append, numsB, List.length_append, count4_length, flat_num8]; omega
                  obtain ⟨b5, hb5⟩ : ∃ b, Hid (b4 ++ numsB Bs = b) := ⟨_, rfl⟩
                  rw [hb5.out] at hbl4
                  clear hr5 hA hk20 hW6 hB6 hf6 hown
                  go_upto_region 30 with (go_at_call 124; refine HN.out.mono ?_; rintro e w8 ⟨v8, rfl, hW8, hq8, _⟩)
                  have hW8 : WriterAt w8 g g v8 (b4 ++ numsB Bs) none := hW8
                  rw [hb5.out] at hW8
                  have hB8 := wrote_blk hB7 hW7.blk hW7.own hq8 (by decide) (by decide)
                  have hf8 := wrote_fr hf7 hW7.own hsg hsg hq8
                  clear hq8 hW7 hB7 hf7 HN
                  have HY := Lib.hid (writer_Bytes hW8 hbl4)
                  go_upto_region 31 with (go_at_call 100; refine HY.out.mono ?_; rintro e w9 ⟨v9, rfl, hv9, hf9⟩)
                  have hv9 : Own8 w9 w8.heap.size v9 b5 := hv9
                  have hnil2 : errW none = .nilIface := rfl
                  rw [hnil2]
                  clear hnil2
                  have hB9 := hB8.fr hf9 id
                  have hk0 := hB9.cell 0
                  go_wp2_with (go_at_call 70; refine (fault_Wrap_nil _ _ _).mono ?_; rintro e w' ⟨rfl, rfl⟩)
                  refine bodyPost_ret (v := .tuple #[v9, .nilIface]) (by simp [results, Tryz.results95, go_sem]) rfl ?_
                  have he : ordB kind t0 t1 t2 l.length 0 l Bs = b5 := by
                    rw [← hb5.out, ← hb4.out, ← hb3.out, ← hb2.out, ← hb1.out, ← hb0.out]
                    simp [ordB]
                  rw [he]
                  exact ⟨v9, rfl, own_base hv9 hf8.size, hf8.then_ hf9⟩
end Go.Proofs.YtmkdhhhoodeemaaGreat

/- say: an order's texts, with a proof. -/
namespace Go.Proofs.YtmkdhhhoodeemaaGreat
open Go Go.RowKit
attribute [local go_sem ↓] run_neqSay run_eqlSay
set_option maxRecDepth 100000 in
set_option maxHeartbeats 2000000 in
theorem say_texts_okP {w : World} {pm : Int} {PA QA : Option Addr} {pn pc qn qc : Nat} {A B : Option Addr} {nr nw cr cw : Nat} {c n : Int} {s : SayD} {bC : Nat} {C : Option Addr} {cx : Nat} {xs : List Int} {G D : Int} (hC : IntRow w bC C xs) (hbC : bC ≤ w.heap.size) (hxl : xs.length ≤ 1024) (hgetok : getOk (num8 G ++ num8 D ++ numsB xs)) {bs : List Int} (hbs : num8 G ++ num8 D ++ numsB xs = bs) {kind : Int} {nm sz : Bool} {b0 b1 : List Int} {r0 r1 : Value}
    (hsz : zeroSay s = !sz)
    (h0 : ∀ w', Fr (fun _ => False) w w' → Calls Tryz.prog 148 #[.bool nm, .agg #[.int .i64 c, .int .i64 n, .slice A nr cr, .slice B nw cw], .func (.func 149) #[] #[]] w' (PutP w' b0 r0))
    (h1 : ∀ w', Fr (fun _ => False) w w' → Calls Tryz.prog 150 #[.bool sz, .agg #[.int .i64 s.kind, .int .i64 s.txn, .bool s.yes, .string s.from_, .string s.to_, .int .i64 s.epoch, .int .i64 s.shard, .int .i64 s.target, .int .i64 s.root], .func (.func 77) #[] #[]] w' (PutP w' b1 r1))
    (hfit : ∀ w', Fr (fun _ => False) w w' → Calls Tryz.prog 156 #[.agg #[.int .i64 pm, .int .i64 0, .slice PA pn pc, .slice QA qn qc]] w' (OkB w' true)) (hr0 : r0 = .nilIface) (hr1 : r1 = .nilIface) (hk1 : 1 ≤ kind) (hk2 : kind ≤ 10) (hnm : nm = false) (hk : ¬ kind = 1 ∧ ¬ kind = 6) (hno : ∀ w', Fr (fun _ => False) w w' → Calls Tryz.prog 155 #[.agg #[.int .i64 c, .int .i64 n, .slice A nr cr, .slice B nw cw]] w' (OkB w' true)) :
    Calls Tryz.prog 123 #[.agg #[.int .i64 kind, .int .i64 c, .int .i64 n, .slice A nr cr, .slice B nw cw, .int .i64 s.kind, .int .i64 s.txn, .bool s.yes, .string s.from_, .string s.to_, .int .i64 s.epoch, .int .i64 s.shard, .int .i64 s.target, .int .i64 s.root, .int .i64 G, .int .i64 D, .slice C xs.length cx, .int .i64 pm, .int .i64 0, .slice PA pn pc, .slice QA qn qc]] w (fun e w' => ∃ v0 v1 v2, e = .returned (.tuple #[.agg #[v0, v1, v2], .bool true]) ∧ Own8 w' w.heap.size v0 b0 ∧ Own8 w' w.heap.size v1 b1 ∧ Own8 w' w.heap.size v2 bs ∧ Fr (fun _ => False) w w') := by
  have H0 := Lib.hid h0
  have H1 := Lib.hid h1
  have HC := Lib.hid hC
  have HG := hgetok
  rw [hbs] at HG
  have HG := Lib.hid HG
  have HBS := Lib.hid hbs
  have H8 : Hid (Bytes8 bs) := by show Bytes8 bs; rw [← hbs]; exact cert_bytes G D xs
  have HBL : Hid (bs.length ≤ 9000) := by show _ ≤ _; rw [← hbs]; exact cert_len hxl
  have HXL := Lib.hid hxl
  have HBC := Lib.hid hbC
  clear h0 h1 hC hgetok hxl hbC hbs
  have hf0 : Fr (fun _ => False) w ((((w.alloc (Obj.cells #[.int .i64 kind, .int .i64 c, .int .i64 n, .slice A nr cr, .slice B nw cw, .int .i64 s.kind, .int .i64 s.txn, .bool s.yes, .string s.from_, .string s.to_, .int .i64 s.epoch, .int .i64 s.shard, .int .i64 s.target, .int .i64 s.root, .int .i64 G, .int .i64 D, .slice C xs.length cx, .int .i64 pm, .int .i64 0, .slice PA pn pc, .slice QA qn qc] 62)).alloc (Obj.cells #[.slice none 0 0, .slice none 0 0, .slice none 0 0] 214)).alloc (Obj.cells #[.slice none 0 0, .slice none 0 0, .slice none 0 0] 214)).alloc (Obj.cells #[.nilIface, .nilIface, .nilIface, .nilIface] 233)) := ((((Fr.refl _ _).alloc _).alloc _).alloc _).alloc _
  have hO0 : Blk ((((w.alloc (Obj.cells #[.int .i64 kind, .int .i64 c, .int .i64 n, .slice A nr cr, .slice B nw cw, .int .i64 s.kind, .int .i64 s.txn, .bool s.yes, .string s.from_, .string s.to_, .int .i64 s.epoch, .int .i64 s.shard, .int .i64 s.target, .int .i64 s.root, .int .i64 G, .int .i64 D, .slice C xs.length cx, .int .i64 pm, .int .i64 0, .slice PA pn pc, .slice QA qn qc] 62)).alloc (Obj.cells #[.slice none 0 0, .slice none 0 0, .slice none 0 0] 214)).alloc (Obj.cells #[.slice none 0 0, .slice none 0 0, .slice none 0 0] 214)).alloc (Obj.cells #[.nilIface, .nilIface, .nilIface, .nilIface] 233)) w.heap.size 62 #[.int .i64 kind, .int .i64 c, .int .i64 n, .slice A nr cr, .slice B nw cw, .int .i64 s.kind, .int .i64 s.txn, .bool s.yes, .string s.from_, .string s.to_, .int .i64 s.epoch, .int .i64 s.shard, .int .i64 s.target, .int .i64 s.root, .int .i64 G, .int .i64 D, .slice C xs.length cx, .int .i64 pm, .int .i64 0, .slice PA pn pc, .slice QA qn qc] := (((Blk.new w _ _).alloc _).alloc _).alloc _
  have hR0 : Blk ((((w.alloc (Obj.cells #[.int .i64 kind, .int .i64 c, .int .i64 n, .slice A nr cr, .slice B nw cw, .int .i64 s.kind, .int .i64 s.txn, .bool s.yes, .string s.from_, .string s.to_, .int .i64 s.epoch, .int .i64 s.shard, .int .i64 s.target, .int .i64 s.root, .int .i64 G, .int .i64 D, .slice C xs.length cx, .int .i64 pm, .int .i64 0, .slice PA pn pc, .slice QA qn qc] 62)).alloc (Obj.cells #[.slice none 0 0, .slice none 0 0, .slice none 0 0] 214)).alloc (Obj.cells #[.slice none 0 0, .slice none 0 0, .slice none 0 0] 214)).alloc (Obj.cells #[.nilIface, .nilIface, .nilIface, .nilIface] 233)) (w.heap.size + 1) 214 #[.slice none 0 0, .slice none 0 0, .slice none 0 0] := ((Blk.new_ _ _ _ (by simp)).alloc _).alloc _
  have hL0 : Blk ((((w.alloc (Obj.cells #[.int .i64 kind, .int .i64 c, .int .i64 n, .slice A nr cr, .slice B nw cw, .int .i64 s.kind, .int .i64 s.txn, .bool s.yes, .string s.from_, .string s.to_, .int .i64 s.epoch, .int .i64 s.shard, .int .i64 s.target, .int .i64 s.root, .int .i64 G, .int .i64 D, .slice C xs.length cx, .int .i64 pm, .int .i64 0, .slice PA pn pc, .slice QA qn qc] 62)).alloc (Obj.cells #[.slice none 0 0, .slice none 0 0, .slice none 0 0] 214)).alloc (Obj.cells #[.slice none 0 0, .slice none 0 0, .slice none 0 0] 214)).alloc (Obj.cells #[.nilIface, .nilIface, .nilIface, .nilIface] 233)) (w.heap.size + 1 + 1) 214 #[.slice none 0 0, .slice none 0 0, .slice none 0 0] := (Blk.new_ _ _ _ (by simp)).alloc _
  have hE0 : Blk ((((w.alloc (Obj.cells #[.int .i64 kind, .int .i64 c, .int .i64 n, .slice A nr cr, .slice B nw cw, .int .i64 s.kind, .int .i64 s.txn, .bool s.yes, .string s.from_, .string s.to_, .int .i64 s.epoch, .int .i64 s.shard, .int .i64 s.target, .int .i64 s.root, .int .i64 G, .int .i64 D, .slice C xs.length cx, .int .i64 pm, .int .i64 0, .slice PA pn pc, .slice QA qn qc] 62)).alloc (Obj.cells #[.slice none 0 0, .slice none 0 0, .slice none 0 0] 214)).alloc (Obj.cells #[.slice none 0 0, .slice none 0 0, .slice none 0 0] 214)).alloc (Obj.cells #[.nilIface, .nilIface, .nilIface, .nilIface] 233)) (w.heap.size + 1 + 1 + 1) 233 #[.nilIface, .nilIface, .nilIface, .nilIface] := Blk.new_ _ _ _ (by simp)
  have hz0 : w.heap.size + 4 ≤ ((((w.alloc (Obj.cells #[.int .i64 kind, .int .i64 c, .int .i64 n, .slice A nr cr, .slice B nw cw, .int .i64 s.kind, .int .i64 s.txn, .bool s.yes, .string s.from_, .string s.to_, .int .i64 s.epoch, .int .i64 s.shard, .int .i64 s.target, .int .i64 s.root, .int .i64 G, .int .i64 D, .slice C xs.length cx, .int .i64 pm, .int .i64 0, .slice PA pn pc, .slice QA qn qc] 62)).alloc (Obj.cells #[.slice none 0 0, .slice none 0 0, .slice none 0 0] 214)).alloc (Obj.cells #[.slice none 0 0, .slice none 0 0, .slice none 0 0] 214)).alloc (Obj.cells #[.nilIface, .nilIface, .nilIface, .nilIface] 233)).heap.size := by simp
  subst hr0 hr1 hnm
  have HN := Lib.hid hno
  clear hno
  have HFIT := Lib.hid hfit
  clear hfit
  obtain ⟨q1, q6⟩ := hk
  have q1' : (kind == 1) = false := by simp [q1]
  have q6' : (kind == 6) = false := by simp [q6]
  go_enter Tryz.func123, Tryz.ntmps123
  go_upto_region 4 with fail
  generalize ((((w.alloc (Obj.cells #[.int .i64 kind, .int .i64 c, .int .i64 n, .slice A nr cr, .slice B nw cw, .int .i64 s.kind, .int .i64 s.txn, .bool s.yes, .string s.from_, .string s.to_, .int .i64 s.epoch, .int .i64 s.shard, .int .i64 s.target, .int .i64 s.root, .int .i64 G, .int .i64 D, .slice C xs.length cx, .int .i64 pm, .int .i64 0, .slice PA pn pc, .slice QA qn qc] 62)).alloc (Obj.cells #[.slice none 0 0, .slice none 0 0, .slice none 0 0] 214)).alloc (Obj.cells #[.slice none 0 0, .slice none 0 0, .slice none 0 0] 214)).alloc (Obj.cells #[.nilIface, .nilIface, .nilIface, .nilIface] 233)) = w0 at *
  have k1 := hO0.cell 1
  have k2 := hO0.cell 2
  have k3 := hO0.cell 3
  have k4 := hO0.cell 4
  go_upto_region 5 with (first | (go_at_call 148; refine (H0.out _ hf0).mono ?_; rintro e w1 ⟨v0, rfl, hv01, hf1⟩; obtain ⟨A0, c0, rfl, _, _⟩ := hv01.form; have hf01 := hf0.then_ hf1; have hL1 := hL0.fr hf1 id; have hE1 := hE0.fr hf1 id; have hO1 := hO0.fr hf1 id; have hR1 := hR0.fr hf1 id; have l0 := hL1.cell 0; have lf := hL1.frozen 0; have e0 := hE1.cell 0; have ef := hE1.frozen 0))
  have hO2 : Blk ((w1.setCell ⟨w.heap.size + 1 + 1, 0, none⟩ (Value.slice A0 b0.length c0)).setCell ⟨w.heap.size + 1 + 1 + 1, 0, none⟩ .nilIface) _ _ _ := ((hO1.far (fun h => by (try dsimp only at h); omega) _).far (fun h => by (try dsimp only at h); omega) _)
  have hR2 : Blk ((w1.setCell ⟨w.heap.size + 1 + 1, 0, none⟩ (Value.slice A0 b0.length c0)).setCell ⟨w.heap.size + 1 + 1 + 1, 0, none⟩ .nilIface) _ _ _ := ((hR1.far (fun h => by (try dsimp only at h); omega) _).far (fun h => by (try dsimp only at h); omega) _)
  have hL2 : Blk ((w1.setCell ⟨w.heap.size + 1 + 1, 0, none⟩ (Value.slice A0 b0.length c0)).setCell ⟨w.heap.size + 1 + 1 + 1, 0, none⟩ .nilIface) _ _ _ := ((hL1.set_ 0 _).far (fun h => by (try dsimp only at h); omega) _)
  have hE2 : Blk ((w1.setCell ⟨w.heap.size + 1 + 1, 0, none⟩ (Value.slice A0 b0.length c0)).setCell ⟨w.heap.size + 1 + 1 + 1, 0, none⟩ .nilIface) _ _ _ := ((hE1.far (fun h => by (try dsimp only at h); omega) _).set_ 0 _)
  have hf02 : Fr (fun _ => False) w ((w1.setCell ⟨w.heap.size + 1 + 1, 0, none⟩ (Value.slice A0 b0.length c0)).setCell ⟨w.heap.size + 1 + 1 + 1, 0, none⟩ .nilIface) := ((hf01.setCell (p := ⟨w.heap.size + 1 + 1, 0, none⟩) (fun h => absurd h (by dsimp only; omega)) _).setCell (p := ⟨w.heap.size + 1 + 1 + 1, 0, none⟩) (fun h => absurd h (by dsimp only; omega)) _)
  have hv02 : Own8 ((w1.setCell ⟨w.heap.size + 1 + 1, 0, none⟩ (Value.slice A0 b0.length c0)).setCell ⟨w.heap.size + 1 + 1 + 1, 0, none⟩ .nilIface) _ _ _ := hv01.fr (((Fr.refl (fun k => k = (w.heap.size + 1 + 1 + 1) ∨ k = (w.heap.size + 1 + 1)) w1).setCell (p := ⟨w.heap.size + 1 + 1, 0, none⟩) (fun _ => Or.inr rfl) _).setCell (p := ⟨w.heap.size + 1 + 1 + 1, 0, none⟩) (fun _ => Or.inl rfl) _) (fun k hk h => h.elim (fun h => hv01.ne_blk hE1 (by decide) (by rw [← h]; exact hk)) (fun h => hv01.ne_blk hL1 (by decide) (by rw [← h]; exact hk)))
  generalize ((w1.setCell ⟨w.heap.size + 1 + 1, 0, none⟩ (Value.slice A0 b0.length c0)).setCell ⟨w.heap.size + 1 + 1 + 1, 0, none⟩ .nilIface) = w2 at *
  have k5 := hO2.cell 5
  have k6 := hO2.cell 6
  have k7 := hO2.cell 7
  have k8 := hO2.cell 8
  have k9 := hO2.cell 9
  have k10 := hO2.cell 10
  have k11 := hO2.cell 11
  have k12 := hO2.cell 12
  have k13 := hO2.cell 13
  have hf02d : Fr (fun _ => False) w w2.drew := hf02.drew
  refine wp_region_noPanic ?_
  refine wp_region_held_drew (S := (fun w' => w'.cell? ⟨w.heap.size, 5, none⟩ = some (.int .i64 s.kind) ∧ w'.cell? ⟨w.heap.size, 6, none⟩ = some (.int .i64 s.txn) ∧ w'.cell? ⟨w.heap.size, 7, none⟩ = some (.bool s.yes) ∧ w'.cell? ⟨w.heap.size, 8, none⟩ = some (.string s.from_) ∧ w'.cell? ⟨w.heap.size, 9, none⟩ = some (.string s.to_) ∧ w'.cell? ⟨w.heap.size, 10, none⟩ = some (.int .i64 s.epoch) ∧ w'.cell? ⟨w.heap.size, 11, none⟩ = some (.int .i64 s.shard) ∧ w'.cell? ⟨w.heap.size, 12, none⟩ = some (.int .i64 s.target) ∧ w'.cell? ⟨w.heap.size, 13, none⟩ = some (.int .i64 s.root))) (by kernel_rfl) (⟨k5, k6, k7, k8, k9, k10, k11, k12, k13⟩) (fun hHeld => ?_)
  refine wpAnyH_takeAt (i := 0) (v := ?vb0) (some 26) rfl rfl (by kernel_rfl) (by kernel_rfl) (by kernel_rfl) (fun _ _ _ h => h) (Or.inl ⟨by rfl, ?hyb0⟩) (by assumption) ?restb0
  case hyb0 => (intro w hSw; (try dsimp only at hSw); go_simp; all_goals with_reducible rfl)
  simp only [Act.put, List.setIfInBounds_toArray, List.set_cons_zero, List.set_cons_succ]
  refine wpAnyH_takeAt (i := 1) (v := ?vb1) (some 27) rfl rfl (by kernel_rfl) (by kernel_rfl) (by kernel_rfl) (fun _ _ _ h => h) (Or.inl ⟨by rfl, ?hyb1⟩) (by assumption) ?restb1
  case hyb1 => (intro w hSw; (try dsimp only at hSw); go_simp; all_goals with_reducible rfl)
  simp only [Act.put, List.setIfInBounds_toArray, List.set_cons_zero, List.set_cons_succ]
  refine wpAnyH_takeAt (i := 2) (v := ?vb2) (some 28) rfl rfl (by kernel_rfl) (by kernel_rfl) (by kernel_rfl) (fun _ _ _ h => h) (Or.inl ⟨by rfl, ?hyb2⟩) (by assumption) ?restb2
  case hyb2 => (intro w hSw; (try dsimp only at hSw); go_simp; all_goals with_reducible rfl)
  simp only [Act.put, List.setIfInBounds_toArray, List.set_cons_zero, List.set_cons_succ]
  refine wpAnyH_takeAt (i := 3) (v := ?vb3) (some 29) rfl rfl (by kernel_rfl) (by kernel_rfl) (by kernel_rfl) (fun _ _ _ h => h) (Or.inl ⟨by rfl, ?hyb3⟩) (by assumption) ?restb3
  case hyb3 => (intro w hSw; (try dsimp only at hSw); go_simp; all_goals with_reducible rfl)
  simp only [Act.put, List.setIfInBounds_toArray, List.set_cons_zero, List.set_cons_succ]
  refine wpAnyH_takeAt (i := 4) (v := ?vb4) (some 30) rfl rfl (by kernel_rfl) (by kernel_rfl) (by kernel_rfl) (fun _ _ _ h => h) (Or.inl ⟨by rfl, ?hyb4⟩) (by assumption) ?restb4
  case hyb4 => (intro w hSw; (try dsimp only at hSw); go_simp; all_goals with_reducible rfl)
  simp only [Act.put, List.setIfInBounds_toArray, List.set_cons_zero, List.set_cons_succ]
  refine wpAnyH_takeAt (i := 5) (v := ?vb5) (some 31) rfl rfl (by kernel_rfl) (by kernel_rfl) (by kernel_rfl) (fun _ _ _ h => h) (Or.inl ⟨by rfl, ?hyb5⟩) (by assumption) ?restb5
  case hyb5 => (intro w hSw; (try dsimp only at hSw); go_simp; all_goals with_reducible rfl)
  simp only [Act.put, List.setIfInBounds_toArray, List.set_cons_zero, List.set_cons_succ]
  refine wpAnyH_ready (rs := [6]) (by kernel_rfl) (by simp) ?_
  refine AllReadyH.cons rfl (fun K hK => ?_) AllReadyH.nil
  go_simp
  go_at_call 150
  refine (H1.out _ hf02d).mono ?_
  rintro e w3 ⟨v1, rfl, hv13, hf3⟩
  obtain ⟨A1, c1, rfl, _, _⟩ := hv13.form
  have hf3 : Fr (fun _ => False) w2 w3 := ((Fr.refl (fun _ => False) w2).drew).trans hf3 (fun _ _ h => h)
  have hO3 := hO2.fr hf3 id
  have hR3 := hR2.fr hf3 id
  have hL3 := hL2.fr hf3 id
  have hE3 := hE2.fr hf3 id
  have hv03 := hv02.fr hf3 (fun _ _ => id)
  have hf03 := hf02.then_ hf3
  have lc1 := hL3.cell 1
  have ec1 := hE3.cell 1
  have lf := hL3.frozen 1
  have ef := hE3.frozen 1
  try go_wp2_with fail
  refine hK.out _ _ (⟨hO3.cell 5, hO3.cell 6, hO3.cell 7, hO3.cell 8, hO3.cell 9, hO3.cell 10, hO3.cell 11, hO3.cell 12, hO3.cell 13⟩) (fun hHeld => ?_)
  clear hK K
  refine wpAnyH_takeAt (i := 7) (v := ?vb7) (some 25) rfl rfl (by kernel_rfl) (by kernel_rfl) (by kernel_rfl) (fun _ _ _ h => h) (Or.inl ⟨by rfl, ?hyb7⟩) (by assumption) ?restb7
  case hyb7 => (intro w hSw; (try dsimp only at hSw); go_simp; all_goals with_reducible rfl)
  simp only [Act.put, List.setIfInBounds_toArray, List.set_cons_zero, List.set_cons_succ]
  refine wpAnyH_takeAt (i := 8) (v := ?vb8) (some 33) rfl rfl (by kernel_rfl) (by kernel_rfl) (by kernel_rfl) (fun _ _ _ h => h) (Or.inl ⟨by rfl, ?hyb8⟩) (by assumption) ?restb8
  case hyb8 => (intro w hSw; (try dsimp only at hSw); go_simp; all_goals with_reducible rfl)
  simp only [Act.put, List.setIfInBounds_toArray, List.set_cons_zero, List.set_cons_succ]
  refine wpAnyH_takeAt (i := 9) (v := ?vb9) (some 34) rfl rfl (by kernel_rfl) (by kernel_rfl) (by kernel_rfl) (fun _ _ _ h => h) (Or.inl ⟨by rfl, ?hyb9⟩) (by assumption) ?restb9
  case hyb9 => (intro w hSw; (try dsimp only at hSw); go_simp; all_goals with_reducible rfl)
  simp only [Act.put, List.setIfInBounds_toArray, List.set_cons_zero, List.set_cons_succ]
  refine wpAnyH_takeAt (i := 10) (v := ?vb10) (some 35) rfl rfl (by kernel_rfl) (by kernel_rfl) (by kernel_rfl) (fun _ _ _ h => h) (Or.inl ⟨by rfl, ?hyb10⟩) (by assumption) ?restb10
  case hyb10 => (intro w hSw; (try dsimp only at hSw); go_simp; all_goals with_reducible rfl)
  simp only [Act.put, List.setIfInBounds_toArray, List.set_cons_zero, List.set_cons_succ]
  refine wpAnyH_ready (rs := [11]) (by kernel_rfl) (by simp) ?_
  refine AllReadyH.cons rfl (fun K hK => ?_) AllReadyH.nil
  go_simp
  refine hK.out _ _ (⟨(hO3.far (fun h => by (try dsimp only at h); omega) _).cell 5, (hO3.far (fun h => by (try dsimp only at h); omega) _).cell 6, (hO3.far (fun h => by (try dsimp only at h); omega) _).cell 7, (hO3.far (fun h => by (try dsimp only at h); omega) _).cell 8, (hO3.far (fun h => by (try dsimp only at h); omega) _).cell 9, (hO3.far (fun h => by (try dsimp only at h); omega) _).cell 10, (hO3.far (fun h => by (try dsimp only at h); omega) _).cell 11, (hO3.far (fun h => by (try dsimp only at h); omega) _).cell 12, (hO3.far (fun h => by (try dsimp only at h); omega) _).cell 13⟩) (fun hHeld => ?_)
  clear hK K
  refine wpAnyH_takeAt (i := 12) (v := ?vb12) (some 36) rfl rfl (by kernel_rfl) (by kernel_rfl) (by kernel_rfl) (fun _ _ _ h => h) (Or.inl ⟨by rfl, ?hyb12⟩) (by assumption) ?restb12
  case hyb12 => (intro w hSw; (try dsimp only at hSw); go_simp; all_goals with_reducible rfl)
  simp only [Act.put, List.setIfInBounds_toArray, List.set_cons_zero, List.set_cons_succ]
  refine wpAnyH_ready (rs := [13]) (by kernel_rfl) (by simp) ?_
  refine AllReadyH.cons rfl (fun K hK => ?_) AllReadyH.nil
  go_simp
  refine hK.out _ _ (⟨((hO3.far (fun h => by (try dsimp only at h); omega) _).far (fun h => by (try dsimp only at h); omega) _).cell 5, ((hO3.far (fun h => by (try dsimp only at h); omega) _).far (fun h => by (try dsimp only at h); omega) _).cell 6, ((hO3.far (fun h => by (try dsimp only at h); omega) _).far (fun h => by (try dsimp only at h); omega) _).cell 7, ((hO3.far (fun h => by (try dsimp only at h); omega) _).far (fun h => by (try dsimp only at h); omega) _).cell 8, ((hO3.far (fun h => by (try dsimp only at h); omega) _).far (fun h => by (try dsimp only at h); omega) _).cell 9, ((hO3.far (fun h => by (try dsimp only at h); omega) _).far (fun h => by (try dsimp only at h); omega) _).cell 10, ((hO3.far (fun h => by (try dsimp only at h); omega) _).far (fun h => by (try dsimp only at h); omega) _).cell 11, ((hO3.far (fun h => by (try dsimp only at h); omega) _).far (fun h => by (try dsimp only at h); omega) _).cell 12, ((hO3.far (fun h => by (try dsimp only at h); omega) _).far (fun h => by (try dsimp only at h); omega) _).cell 13⟩) (fun hHeld => ?_)
  clear hK K
  refine wpAnyH_done (by kernel_rfl) ?_ _
  refine NoPanic.normal ?_
  have hO4 : Blk ((w3.setCell ⟨w.heap.size + 1 + 1, 1, none⟩ (Value.slice A1 b1.length c1)).setCell ⟨w.heap.size + 1 + 1 + 1, 1, none⟩ .nilIface) _ _ _ := ((hO3.far (fun h => by (try dsimp only at h); omega) _).far (fun h => by (try dsimp only at h); omega) _)
  have hR4 : Blk ((w3.setCell ⟨w.heap.size + 1 + 1, 1, none⟩ (Value.slice A1 b1.length c1)).setCell ⟨w.heap.size + 1 + 1 + 1, 1, none⟩ .nilIface) _ _ _ := ((hR3.far (fun h => by (try dsimp only at h); omega) _).far (fun h => by (try dsimp only at h); omega) _)
  have hL4 : Blk ((w3.setCell ⟨w.heap.size + 1 + 1, 1, none⟩ (Value.slice A1 b1.length c1)).setCell ⟨w.heap.size + 1 + 1 + 1, 1, none⟩ .nilIface) _ _ _ := ((hL3.set_ 1 _).far (fun h => by (try dsimp only at h); omega) _)
  have hE4 : Blk ((w3.setCell ⟨w.heap.size + 1 + 1, 1, none⟩ (Value.slice A1 b1.length c1)).setCell ⟨w.heap.size + 1 + 1 + 1, 1, none⟩ .nilIface) _ _ _ := ((hE3.far (fun h => by (try dsimp only at h); omega) _).set_ 1 _)
  have hf04 : Fr (fun _ => False) w ((w3.setCell ⟨w.heap.size + 1 + 1, 1, none⟩ (Value.slice A1 b1.length c1)).setCell ⟨w.heap.size + 1 + 1 + 1, 1, none⟩ .nilIface) := ((hf03.setCell (p := ⟨w.heap.size + 1 + 1, 1, none⟩) (fun h => absurd h (by dsimp only; omega)) _).setCell (p := ⟨w.heap.size + 1 + 1 + 1, 1, none⟩) (fun h => absurd h (by dsimp only; omega)) _)
  have hv04 : Own8 ((w3.setCell ⟨w.heap.size + 1 + 1, 1, none⟩ (Value.slice A1 b1.length c1)).setCell ⟨w.heap.size + 1 + 1 + 1, 1, none⟩ .nilIface) _ _ _ := hv03.fr (((Fr.refl (fun k => k = (w.heap.size + 1 + 1 + 1) ∨ k = (w.heap.size + 1 + 1)) w3).setCell (p := ⟨w.heap.size + 1 + 1, 1, none⟩) (fun _ => Or.inr rfl) _).setCell (p := ⟨w.heap.size + 1 + 1 + 1, 1, none⟩) (fun _ => Or.inl rfl) _) (fun k hk h => h.elim (fun h => hv03.ne_blk hE3 (by decide) (by rw [← h]; exact hk)) (fun h => hv03.ne_blk hL3 (by decide) (by rw [← h]; exact hk)))
  have hv14 : Own8 ((w3.setCell ⟨w.heap.size + 1 + 1, 1, none⟩ (Value.slice A1 b1.length c1)).setCell ⟨w.heap.size + 1 + 1 + 1, 1, none⟩ .nilIface) _ _ _ := hv13.fr (((Fr.refl (fun k => k = (w.heap.size + 1 + 1 + 1) ∨ k = (w.heap.size + 1 + 1)) w3).setCell (p := ⟨w.heap.size + 1 + 1, 1, none⟩) (fun _ => Or.inr rfl) _).setCell (p := ⟨w.heap.size + 1 + 1 + 1, 1, none⟩) (fun _ => Or.inl rfl) _) (fun k hk h => h.elim (fun h => hv13.ne_blk hE3 (by decide) (by rw [← h]; exact hk)) (fun h => hv13.ne_blk hL3 (by decide) (by rw [← h]; exact hk)))
  generalize ((w3.setCell ⟨w.heap.size + 1 + 1, 1, none⟩ (Value.slice A1 b1.length c1)).setCell ⟨w.heap.size + 1 + 1 + 1, 1, none⟩ .nilIface) = w4 at *
  have k14 := hO4.cell 14
  have k15 := hO4.cell 15
  have k16 := hO4.cell 16
  have HP : Hid (Calls Tryz.prog 151 #[.agg #[.int .i64 G, .int .i64 D, .slice C xs.length cx]] w4 (PutP w4 bs .nilIface)) := (cert_Put (cap := cx) (HC.out.fr hf04 (fun _ _ => id)) (Nat.le_trans HBC.out hf04.size) (by have := HXL.out; omega) G D).mono fun _ _ h => HBS.out ▸ putP_of HXL.out h
  go_upto_region 7 with (first | (go_at_call 151; refine HP.out.mono ?_; rintro e w5 ⟨v2, rfl, hv25, hf5⟩; obtain ⟨A2, c2, rfl, _, _⟩ := hv25.form; have hO5 := hO4.fr hf5 id; have hR5 := hR4.fr hf5 id; have hL5 := hL4.fr hf5 id; have hE5 := hE4.fr hf5 id; have hv05 := hv04.fr hf5 (fun _ _ => id); have hv15 := hv14.fr hf5 (fun _ _ => id); have hf05 := hf04.then_ hf5; have lc := hL5.cell 2; have lf := hL5.frozen 2; have ec := hE5.cell 2; have ef := hE5.frozen 2))
  have hO6 : Blk ((w5.setCell ⟨w.heap.size + 1 + 1, 2, none⟩ (Value.slice A2 bs.length c2)).setCell ⟨w.heap.size + 1 + 1 + 1, 2, none⟩ Value.nilIface) _ _ _ := ((hO5.far (fun h => by (try dsimp only at h); omega) _).far (fun h => by (try dsimp only at h); omega) _)
  have hR6 : Blk ((w5.setCell ⟨w.heap.size + 1 + 1, 2, none⟩ (Value.slice A2 bs.length c2)).setCell ⟨w.heap.size + 1 + 1 + 1, 2, none⟩ Value.nilIface) _ _ _ := ((hR5.far (fun h => by (try dsimp only at h); omega) _).far (fun h => by (try dsimp only at h); omega) _)
  have hL6 : Blk ((w5.setCell ⟨w.heap.size + 1 + 1, 2, none⟩ (Value.slice A2 bs.length c2)).setCell ⟨w.heap.size + 1 + 1 + 1, 2, none⟩ Value.nilIface) _ _ _ := ((hL5.set_ 2 _).far (fun h => by (try dsimp only at h); omega) _)
  have hE6 : Blk ((w5.setCell ⟨w.heap.size + 1 + 1, 2, none⟩ (Value.slice A2 bs.length c2)).setCell ⟨w.heap.size + 1 + 1 + 1, 2, none⟩ Value.nilIface) _ _ _ := ((hE5.far (fun h => by (try dsimp only at h); omega) _).set_ 2 _)
  have hf06 : Fr (fun _ => False) w ((w5.setCell ⟨w.heap.size + 1 + 1, 2, none⟩ (Value.slice A2 bs.length c2)).setCell ⟨w.heap.size + 1 + 1 + 1, 2, none⟩ Value.nilIface) := ((hf05.setCell (p := ⟨w.heap.size + 1 + 1, 2, none⟩) (fun h => absurd h (by dsimp only; omega)) _).setCell (p := ⟨w.heap.size + 1 + 1 + 1, 2, none⟩) (fun h => absurd h (by dsimp only; omega)) _)
  have hv06 : Own8 ((w5.setCell ⟨w.heap.size + 1 + 1, 2, none⟩ (Value.slice A2 bs.length c2)).setCell ⟨w.heap.size + 1 + 1 + 1, 2, none⟩ Value.nilIface) _ _ _ := hv05.fr (((Fr.refl (fun k => k = (w.heap.size + 1 + 1 + 1) ∨ k = (w.heap.size + 1 + 1)) w5).setCell (p := ⟨w.heap.size + 1 + 1, 2, none⟩) (fun _ => Or.inr rfl) _).setCell (p := ⟨w.heap.size + 1 + 1 + 1, 2, none⟩) (fun _ => Or.inl rfl) _) (fun k hk h => h.elim (fun h => hv05.ne_blk hE5 (by decide) (by rw [← h]; exact hk)) (fun h => hv05.ne_blk hL5 (by decide) (by rw [← h]; exact hk)))
  have hv16 : Own8 ((w5.setCell ⟨w.heap.size + 1 + 1, 2, none⟩ (Value.slice A2 bs.length c2)).setCell ⟨w.heap.size + 1 + 1 + 1, 2, none⟩ Value.nilIface) _ _ _ := hv15.fr (((Fr.refl (fun k => k = (w.heap.size + 1 + 1 + 1) ∨ k = (w.heap.size + 1 + 1)) w5).setCell (p := ⟨w.heap.size + 1 + 1, 2, none⟩) (fun _ => Or.inr rfl) _).setCell (p := ⟨w.heap.size + 1 + 1 + 1, 2, none⟩) (fun _ => Or.inl rfl) _) (fun k hk h => h.elim (fun h => hv15.ne_blk hE5 (by decide) (by rw [← h]; exact hk)) (fun h => hv15.ne_blk hL5 (by decide) (by rw [← h]; exact hk)))
  have hv26 : Own8 ((w5.setCell ⟨w.heap.size + 1 + 1, 2, none⟩ (Value.slice A2 bs.length c2)).setCell ⟨w.heap.size + 1 + 1 + 1, 2, none⟩ Value.nilIface) _ _ _ := hv25.fr (((Fr.refl (fun k => k = (w.heap.size + 1 + 1 + 1) ∨ k = (w.heap.size + 1 + 1)) w5).setCell (p := ⟨w.heap.size + 1 + 1, 2, none⟩) (fun _ => Or.inr rfl) _).setCell (p := ⟨w.heap.size + 1 + 1 + 1, 2, none⟩) (fun _ => Or.inl rfl) _) (fun k hk h => h.elim (fun h => hv25.ne_blk hE5 (by decide) (by rw [← h]; exact hk)) (fun h => hv25.ne_blk hL5 (by decide) (by rw [← h]; exact hk)))
  generalize ((w5.setCell ⟨w.heap.size + 1 + 1, 2, none⟩ (Value.slice A2 bs.length c2)).setCell ⟨w.heap.size + 1 + 1 + 1, 2, none⟩ Value.nilIface) = w6 at *
  have ec := hE6.cell 2
  have lc := hL6.cell 2
  obtain ⟨_, _, hve, _, hrow⟩ := hv26.form
  cases hve
  have HGET := Lib.hid (cert_Get (cap := c2) hrow (by have := HBL.out; omega) H8.out)
  clear hrow
  go_upto_region 9 with (first | (go_at_call 152; refine HGET.out.mono ?_; rintro e w7 hg7; obtain ⟨x3, rfl, hf7⟩ := get_fine HG.out hg7; have hO7 := hO6.fr hf7 id; have hR7 := hR6.fr hf7 id; have hL7 := hL6.fr hf7 id; have hE7 := hE6.fr hf7 id; have hv07 := hv06.fr hf7 (fun _ _ => id); have hv17 := hv16.fr hf7 (fun _ _ => id); have hv27 := hv26.fr hf7 (fun _ _ => id); have hf07 := hf06.then_ hf7; have ec := hE7.cell 3; have ef := hE7.frozen 3))
  have hO8 : Blk (w7.setCell ⟨w.heap.size + 1 + 1 + 1, 3, none⟩ Value.nilIface) _ _ _ := (hO7.far (fun h => by (try dsimp only at h); omega) _)
  have hR8 : Blk (w7.setCell ⟨w.heap.size + 1 + 1 + 1, 3, none⟩ Value.nilIface) _ _ _ := (hR7.far (fun h => by (try dsimp only at h); omega) _)
  have hL8 : Blk (w7.setCell ⟨w.heap.size + 1 + 1 + 1, 3, none⟩ Value.nilIface) _ _ _ := (hL7.far (fun h => by (try dsimp only at h); omega) _)
  have hE8 : Blk (w7.setCell ⟨w.heap.size + 1 + 1 + 1, 3, none⟩ Value.nilIface) _ _ _ := (hE7.set_ 3 _)
  have hf08 : Fr (fun _ => False) w (w7.setCell ⟨w.heap.size + 1 + 1 + 1, 3, none⟩ Value.nilIface) := (hf07.setCell (p := ⟨w.heap.size + 1 + 1 + 1, 3, none⟩) (fun h => absurd h (by dsimp only; omega)) _)
  have hv08 : Own8 (w7.setCell ⟨w.heap.size + 1 + 1 + 1, 3, none⟩ Value.nilIface) _ _ _ := hv07.fr ((Fr.refl (fun k => k = (w.heap.size + 1 + 1 + 1)) w7).setCell (p := ⟨w.heap.size + 1 + 1 + 1, 3, none⟩) (fun _ => rfl) _) (fun k hk h => hv07.ne_blk hE7 (by decide) (by rw [← h]; exact hk))
  have hv18 : Own8 (w7.setCell ⟨w.heap.size + 1 + 1 + 1, 3, none⟩ Value.nilIface) _ _ _ := hv17.fr ((Fr.refl (fun k => k = (w.heap.size + 1 + 1 + 1)) w7).setCell (p := ⟨w.heap.size + 1 + 1 + 1, 3, none⟩) (fun _ => rfl) _) (fun k hk h => hv17.ne_blk hE7 (by decide) (by rw [← h]; exact hk))
  have hv28 : Own8 (w7.setCell ⟨w.heap.size + 1 + 1 + 1, 3, none⟩ Value.nilIface) _ _ _ := hv27.fr ((Fr.refl (fun k => k = (w.heap.size + 1 + 1 + 1)) w7).setCell (p := ⟨w.heap.size + 1 + 1 + 1, 3, none⟩) (fun _ => rfl) _) (fun k hk h => hv27.ne_blk hE7 (by decide) (by rw [← h]; exact hk))
  generalize (w7.setCell ⟨w.heap.size + 1 + 1 + 1, 3, none⟩ Value.nilIface) = w8 at *
  have HER : Hid (ErrRow w8 (w.heap.size + 1 + 1 + 1) [.nilIface, .nilIface, .nilIface, .nilIface]) := err_row hE8 (.inl rfl) (.inl rfl) (.inl rfl) (.inl rfl)
  go_upto_region 10 with (first | (go_at_call 153; refine (containsErr (cap := 4) (z := false) rfl HER.out (by simp)).mono ?_; rintro e w9 ⟨rfl, rfl⟩))
  have hf08d : Fr (fun _ => False) w w8.drew := hf08.drew
  refine wp_region_noPanic ?_
  refine wp_region_held_drew (S := (fun w' => w'.cell? ⟨w.heap.size, 0, none⟩ = some (.int .i64 kind) ∧ w'.cell? ⟨w.heap.size, 1, none⟩ = some (.int .i64 c) ∧ w'.cell? ⟨w.heap.size, 2, none⟩ = some (.int .i64 n) ∧ w'.cell? ⟨w.heap.size, 3, none⟩ = some (.slice A nr cr) ∧ w'.cell? ⟨w.heap.size, 4, none⟩ = some (.slice B nw cw) ∧ w'.cell? ⟨w.heap.size, 17, none⟩ = some (.int .i64 pm) ∧ w'.cell? ⟨w.heap.size, 18, none⟩ = some (.int .i64 0) ∧ w'.cell? ⟨w.heap.size, 19, none⟩ = some (.slice PA pn pc) ∧ w'.cell? ⟨w.heap.size, 20, none⟩ = some (.slice QA qn qc) ∧ w'.cell? ⟨w.heap.size + 1 + 1, 0, none⟩ = some ((Value.slice A0 b0.length c0)) ∧ w'.cell? ⟨w.heap.size + 1 + 1, 1, none⟩ = some ((Value.slice A1 b1.length c1)) ∧ w'.cell? ⟨w.heap.size + 1 + 1, 2, none⟩ = some ((Value.slice A2 bs.length c2)))) (by kernel_rfl) (⟨hO8.cell 0, hO8.cell 1, hO8.cell 2, hO8.cell 3, hO8.cell 4, hO8.cell 17, hO8.cell 18, hO8.cell 19, hO8.cell 20, hL8.cell 0, hL8.cell 1, hL8.cell 2⟩) (fun hHeld => ?_)
  refine wpAnyH_takeAt (i := 0) (v := ?vc0) (some 57) rfl rfl (by kernel_rfl) (by kernel_rfl) (by kernel_rfl) (fun _ _ _ h => h) (Or.inl ⟨by rfl, ?hyc0⟩) (by assumption) ?restc0
  case hyc0 => (intro w hSw; (try dsimp only at hSw); go_simp; all_goals with_reducible rfl)
  simp only [Act.put, List.setIfInBounds_toArray, List.set_cons_zero, List.set_cons_succ]
  refine wpAnyH_takeAt (i := 1) (v := ?vc1) (some 58) rfl rfl (by kernel_rfl) (by kernel_rfl) (by kernel_rfl) (fun _ _ _ h => h) (Or.inl ⟨by rfl, ?hyc1⟩) (by assumption) ?restc1
  case hyc1 => (intro w hSw; (try dsimp only at hSw); go_simp; all_goals with_reducible rfl)
  simp only [Act.put, List.setIfInBounds_toArray, List.set_cons_zero, List.set_cons_succ]
  refine wpAnyH_takeAt (i := 2) (v := ?vc2) (some 59) rfl rfl (by kernel_rfl) (by kernel_rfl) (by kernel_rfl) (fun _ _ _ h => h) (Or.inl ⟨by rfl, ?hyc2⟩) (by assumption) ?restc2
  case hyc2 => (intro w hSw; (try dsimp only at hSw); go_simp; all_goals with_reducible rfl)
  simp only [Act.put, List.setIfInBounds_toArray, List.set_cons_zero, List.set_cons_succ]
  refine wpAnyH_takeAt (i := 3) (v := ?vc3) (some 60) rfl rfl (by kernel_rfl) (by kernel_rfl) (by kernel_rfl) (fun _ _ _ h => h) (Or.inl ⟨by rfl, ?hyc3⟩) (by assumption) ?restc3
  case hyc3 => (intro w hSw; (try dsimp only at hSw); go_simp; all_goals with_reducible rfl)
  simp only [Act.put, List.setIfInBounds_toArray, List.set_cons_zero, List.set_cons_succ]
  refine wpAnyH_takeAt (i := 4) (v := ?vc4) (some 61) rfl rfl (by kernel_rfl) (by kernel_rfl) (by kernel_rfl) (fun _ _ _ h => h) (Or.inl ⟨by rfl, ?hyc4⟩) (by assumption) ?restc4
  case hyc4 => (intro w hSw; (try dsimp only at hSw); go_simp; all_goals with_reducible rfl)
  simp only [Act.put, List.setIfInBounds_toArray, List.set_cons_zero, List.set_cons_succ]
  refine wpAnyH_takeAt (i := 5) (v := ?vc5) (some 62) rfl rfl (by kernel_rfl) (by kernel_rfl) (by kernel_rfl) (fun _ _ _ h => h) (Or.inl ⟨by rfl, ?hyc5⟩) (by assumption) ?restc5
  case hyc5 => (intro w hSw; (try dsimp only at hSw); go_simp; all_goals with_reducible rfl)
  simp only [Act.put, List.setIfInBounds_toArray, List.set_cons_zero, List.set_cons_succ]
  refine wpAnyH_takeAt (i := 6) (v := ?vc6) (some 63) rfl rfl (by kernel_rfl) (by kernel_rfl) (by kernel_rfl) (fun _ _ _ h => h) (Or.inl ⟨by rfl, ?hyc6⟩) (by assumption) ?restc6
  case hyc6 => (intro w hSw; (try dsimp only at hSw); go_simp; all_goals with_reducible rfl)
  simp only [Act.put, List.setIfInBounds_toArray, List.set_cons_zero, List.set_cons_succ]
  refine wpAnyH_takeAt (i := 7) (v := ?vc7) (some 64) rfl rfl (by kernel_rfl) (by kernel_rfl) (by kernel_rfl) (fun _ _ _ h => h) (Or.inl ⟨by rfl, ?hyc7⟩) (by assumption) ?restc7
  case hyc7 => (intro w hSw; (try dsimp only at hSw); go_simp; all_goals with_reducible rfl)
  simp only [Act.put, List.setIfInBounds_toArray, List.set_cons_zero, List.set_cons_succ]
  refine wpAnyH_takeAt (i := 8) (v := ?vc8) (some 65) rfl rfl (by kernel_rfl) (by kernel_rfl) (by kernel_rfl) (fun _ _ _ h => h) (Or.inl ⟨by rfl, ?hyc8⟩) (by assumption) ?restc8
  case hyc8 => (intro w hSw; (try dsimp only at hSw); go_simp; all_goals with_reducible rfl)
  simp only [Act.put, List.setIfInBounds_toArray, List.set_cons_zero, List.set_cons_succ]
  refine wpAnyH_takeAt (i := 9) (v := ?vc9) (some 66) rfl rfl (by kernel_rfl) (by kernel_rfl) (by kernel_rfl) (fun _ _ _ h => h) (Or.inl ⟨by rfl, ?hyc9⟩) (by assumption) ?restc9
  case hyc9 => (intro w hSw; (try dsimp only at hSw); go_simp; all_goals with_reducible rfl)
  simp only [Act.put, List.setIfInBounds_toArray, List.set_cons_zero, List.set_cons_succ]
  refine wpAnyH_takeAt (i := 10) (v := ?vc10) (some 67) rfl rfl (by kernel_rfl) (by kernel_rfl) (by kernel_rfl) (fun _ _ _ h => h) (Or.inl ⟨by rfl, ?hyc10⟩) (by assumption) ?restc10
  case hyc10 => (intro w hSw; (try dsimp only at hSw); go_simp; all_goals with_reducible rfl)
  simp only [Act.put, List.setIfInBounds_toArray, List.set_cons_zero, List.set_cons_succ]
  refine wpAnyH_takeAt (i := 11) (v := ?vc11) (some 68) rfl rfl (by kernel_rfl) (by kernel_rfl) (by kernel_rfl) (fun _ _ _ h => h) (Or.inl ⟨by rfl, ?hyc11⟩) (by assumption) ?restc11
  case hyc11 => (intro w hSw; (try dsimp only at hSw); go_simp; all_goals with_reducible rfl)
  simp only [Act.put, List.setIfInBounds_toArray, List.set_cons_zero, List.set_cons_succ]
  refine wpAnyH_takeAt (i := 12) (v := ?vc12) (some 69) rfl rfl (by kernel_rfl) (by kernel_rfl) (by kernel_rfl) (fun _ _ _ h => h) (Or.inl ⟨by rfl, ?hyc12⟩) (by assumption) ?restc12
  case hyc12 => (intro w hSw; (try dsimp only at hSw); go_simp; all_goals with_reducible rfl)
  simp only [Act.put, List.setIfInBounds_toArray, List.set_cons_zero, List.set_cons_succ]
  refine wpAnyH_takeAt (i := 13) (v := ?vc13) (some 70) rfl rfl (by kernel_rfl) (by kernel_rfl) (by kernel_rfl) (fun _ _ _ h => h) (Or.inl ⟨by rfl, ?hyc13⟩) (by assumption) ?restc13
  case hyc13 => (intro w hSw; (try dsimp only at hSw); go_simp; all_goals with_reducible rfl)
  simp only [Act.put, List.setIfInBounds_toArray, List.set_cons_zero, List.set_cons_succ]
  refine wpAnyH_takeAt (i := 14) (v := ?vc14) (some 71) rfl rfl (by kernel_rfl) (by kernel_rfl) (by kernel_rfl) (fun _ _ _ h => h) (Or.inl ⟨by rfl, ?hyc14⟩) (by assumption) ?restc14
  case hyc14 => (intro w hSw; (try dsimp only at hSw); go_simp; all_goals with_reducible rfl)
  simp only [Act.put, List.setIfInBounds_toArray, List.set_cons_zero, List.set_cons_succ]
  refine wpAnyH_takeAt (i := 15) (v := ?vc15) (some 72) rfl rfl (by kernel_rfl) (by kernel_rfl) (by kernel_rfl) (fun _ _ _ h => h) (Or.inl ⟨by rfl, ?hyc15⟩) (by assumption) ?restc15
  case hyc15 => (intro w hSw; (try dsimp only at hSw); go_simp; all_goals with_reducible rfl)
  simp only [Act.put, List.setIfInBounds_toArray, List.set_cons_zero, List.set_cons_succ]
  refine wpAnyH_takeAt (i := 16) (v := ?vc16) (some 73) rfl rfl (by kernel_rfl) (by kernel_rfl) (by kernel_rfl) (fun _ _ _ h => h) (Or.inl ⟨by rfl, ?hyc16⟩) (by assumption) ?restc16
  case hyc16 => (intro w hSw; (try dsimp only at hSw); go_simp; all_goals with_reducible rfl)
  simp only [Act.put, List.setIfInBounds_toArray, List.set_cons_zero, List.set_cons_succ]
  refine wpAnyH_ready (rs := [17]) (by kernel_rfl) (by simp) ?_
  refine AllReadyH.cons rfl (fun K hK => ?_) AllReadyH.nil
  go_simp
  go_at_call 155
  refine (HN.out _ hf08d).mono ?_
  rintro e w10 ⟨rfl, hf10⟩
  have hf10 : Fr (fun _ => False) w8 w10 := ((Fr.refl (fun _ => False) w8).drew).trans hf10 (fun _ _ h => h)
  have hO10 := hO8.fr hf10 id
  have hR10 := hR8.fr hf10 id
  have hL10 := hL8.fr hf10 id
  have hE10 := hE8.fr hf10 id
  have hv010 := hv08.fr hf10 (fun _ _ => id)
  have hv110 := hv18.fr hf10 (fun _ _ => id)
  have hv210 := hv28.fr hf10 (fun _ _ => id)
  have hf010 := hf08.then_ hf10
  try go_wp2_with fail
  refine hK.out _ _ (⟨hO10.cell 0, hO10.cell 1, hO10.cell 2, hO10.cell 3, hO10.cell 4, hO10.cell 17, hO10.cell 18, hO10.cell 19, hO10.cell 20, hL10.cell 0, hL10.cell 1, hL10.cell 2⟩) (fun hHeld => ?_)
  clear hK K
  refine wpAnyH_takeAt (i := 18) (v := ?vc18) (some 75) rfl rfl (by kernel_rfl) (by kernel_rfl) (by kernel_rfl) (fun _ _ _ h => h) (Or.inl ⟨by rfl, ?hyc18⟩) (by assumption) ?restc18
  case hyc18 => (intro w hSw; (try dsimp only at hSw); go_simp; all_goals with_reducible rfl)
  simp only [Act.put, List.setIfInBounds_toArray, List.set_cons_zero, List.set_cons_succ]
  refine wpAnyH_takeAt (i := 19) (v := ?vc19) (some 76) rfl rfl (by kernel_rfl) (by kernel_rfl) (by kernel_rfl) (fun _ _ _ h => h) (Or.inl ⟨by rfl, ?hyc19⟩) (by assumption) ?restc19
  case hyc19 => (intro w hSw; (try dsimp only at hSw); go_simp; all_goals with_reducible rfl)
  simp only [Act.put, List.setIfInBounds_toArray, List.set_cons_zero, List.set_cons_succ]
  refine wpAnyH_takeAt (i := 20) (v := ?vc20) (some 77) rfl rfl (by kernel_rfl) (by kernel_rfl) (by kernel_rfl) (fun _ _ _ h => h) (Or.inl ⟨by rfl, ?hyc20⟩) (by assumption) ?restc20
  case hyc20 => (intro w hSw; (try dsimp only at hSw); go_simp; all_goals with_reducible rfl)
  simp only [Act.put, List.setIfInBounds_toArray, List.set_cons_zero, List.set_cons_succ]
  refine wpAnyH_takeAt (i := 21) (v := ?vc21) (some 78) rfl rfl (by kernel_rfl) (by kernel_rfl) (by kernel_rfl) (fun _ _ _ h => h) (Or.inl ⟨by rfl, ?hyc21⟩) (by assumption) ?restc21
  case hyc21 => (intro w hSw; (try dsimp only at hSw); go_simp; all_goals with_reducible rfl)
  simp only [Act.put, List.setIfInBounds_toArray, List.set_cons_zero, List.set_cons_succ]
  refine wpAnyH_takeAt (i := 22) (v := ?vc22) (some 79) rfl rfl (by kernel_rfl) (by kernel_rfl) (by kernel_rfl) (fun _ _ _ h => h) (Or.inl ⟨by rfl, ?hyc22⟩) (by assumption) ?restc22
  case hyc22 => (intro w hSw; (try dsimp only at hSw); go_simp; all_goals with_reducible rfl)
  simp only [Act.put, List.setIfInBounds_toArray, List.set_cons_zero, List.set_cons_succ]
  refine wpAnyH_ready (rs := [23]) (by kernel_rfl) (by simp) ?_
  refine AllReadyH.cons rfl (fun K hK => ?_) AllReadyH.nil
  go_simp
  go_at_call 156
  refine (HFIT.out _ hf010).mono ?_
  rintro e w11 ⟨rfl, hf11⟩
  have hO11 := hO10.fr hf11 id
  have hR11 := hR10.fr hf11 id
  have hL11 := hL10.fr hf11 id
  have hE11 := hE10.fr hf11 id
  have hv011 := hv010.fr hf11 (fun _ _ => id)
  have hv111 := hv110.fr hf11 (fun _ _ => id)
  have hv211 := hv210.fr hf11 (fun _ _ => id)
  have hf011 := hf010.then_ hf11
  have rc0 := hR11.cell 0
  have rc1 := hR11.cell 1
  have rc2 := hR11.cell 2
  have rf0 := hR11.frozen 0
  have rf1 := hR11.frozen 1
  have rf2 := hR11.frozen 2
  try go_wp2_with fail
  refine hK.out _ _ (⟨hO11.cell 0, hO11.cell 1, hO11.cell 2, hO11.cell 3, hO11.cell 4, hO11.cell 17, hO11.cell 18, hO11.cell 19, hO11.cell 20, hL11.cell 0, hL11.cell 1, hL11.cell 2⟩) (fun hHeld => ?_)
  clear hK K
  refine wpAnyH_takeAt (i := 24) (v := ?vc24) (some 81) rfl rfl (by kernel_rfl) (by kernel_rfl) (by kernel_rfl) (fun _ _ _ h => h) (Or.inl ⟨by rfl, ?hyc24⟩) (by assumption) ?restc24
  case hyc24 => (intro w hSw; (try dsimp only at hSw); go_simp; all_goals with_reducible rfl)
  simp only [Act.put, List.setIfInBounds_toArray, List.set_cons_zero, List.set_cons_succ]
  refine wpAnyH_ready (rs := [25]) (by kernel_rfl) (by simp) ?_
  refine AllReadyH.cons rfl (fun K hK => ?_) AllReadyH.nil
  go_simp
  refine hK.out _ _ (⟨(((hO11.far (fun h => by (try dsimp only at h); omega) _).far (fun h => by (try dsimp only at h); omega) _).far (fun h => by (try dsimp only at h); omega) _).cell 0, (((hO11.far (fun h => by (try dsimp only at h); omega) _).far (fun h => by (try dsimp only at h); omega) _).far (fun h => by (try dsimp only at h); omega) _).cell 1, (((hO11.far (fun h => by (try dsimp only at h); omega) _).far (fun h => by (try dsimp only at h); omega) _).far (fun h => by (try dsimp only at h); omega) _).cell 2, (((hO11.far (fun h => by (try dsimp only at h); omega) _).far (fun h => by (try dsimp only at h); omega) _).far (fun h => by (try dsimp only at h); omega) _).cell 3, (((hO11.far (fun h => by (try dsimp only at h); omega) _).far (fun h => by (try dsimp only at h); omega) _).far (fun h => by (try dsimp only at h); omega) _).cell 4, (((hO11.far (fun h => by (try dsimp only at h); omega) _).far (fun h => by (try dsimp only at h); omega) _).far (fun h => by (try dsimp only at h); omega) _).cell 17, (((hO11.far (fun h => by (try dsimp only at h); omega) _).far (fun h => by (try dsimp only at h); omega) _).far (fun h => by (try dsimp only at h); omega) _).cell 18, (((hO11.far (fun h => by (try dsimp only at h); omega) _).far (fun h => by (try dsimp only at h); omega) _).far (fun h => by (try dsimp only at h); omega) _).cell 19, (((hO11.far (fun h => by (try dsimp only at h); omega) _).far (fun h => by (try dsimp only at h); omega) _).far (fun h => by (try dsimp only at h); omega) _).cell 20, (((hL11.far (fun h => by (try dsimp only at h); omega) _).far (fun h => by (try dsimp only at h); omega) _).far (fun h => by (try dsimp only at h); omega) _).cell 0, (((hL11.far (fun h => by (try dsimp only at h); omega) _).far (fun h => by (try dsimp only at h); omega) _).far (fun h => by (try dsimp only at h); omega) _).cell 1, (((hL11.far (fun h => by (try dsimp only at h); omega) _).far (fun h => by (try dsimp only at h); omega) _).far (fun h => by (try dsimp only at h); omega) _).cell 2⟩) (fun hHeld => ?_)
  clear hK K
  refine wpAnyH_takeAt (i := 26) (v := ?vc26) (some 3) rfl rfl (by kernel_rfl) (by kernel_rfl) (by kernel_rfl) (fun _ _ _ h => h) (Or.inl ⟨by rfl, ?hyc26⟩) (by assumption) ?restc26
  case hyc26 => (intro w hSw; (try dsimp only at hSw); go_simp; all_goals with_reducible rfl)
  simp only [Act.put, List.setIfInBounds_toArray, List.set_cons_zero, List.set_cons_succ]
  refine wpAnyH_done (by kernel_rfl) ?_ _
  refine NoPanic.normal ?_
  have hO12 : Blk (((w11.setCell ⟨w.heap.size + 1, 0, none⟩ (Value.slice A0 b0.length c0)).setCell ⟨w.heap.size + 1, 1, none⟩ (Value.slice A1 b1.length c1)).setCell ⟨w.heap.size + 1, 2, none⟩ (Value.slice A2 bs.length c2)) _ _ _ := (((hO11.far (fun h => by (try dsimp only at h); omega) _).far (fun h => by (try dsimp only at h); omega) _).far (fun h => by (try dsimp only at h); omega) _)
  have hR12 : Blk (((w11.setCell ⟨w.heap.size + 1, 0, none⟩ (Value.slice A0 b0.length c0)).setCell ⟨w.heap.size + 1, 1, none⟩ (Value.slice A1 b1.length c1)).setCell ⟨w.heap.size + 1, 2, none⟩ (Value.slice A2 bs.length c2)) _ _ _ := (((hR11.set_ 0 _).set_ 1 _).set_ 2 _)
  have hL12 : Blk (((w11.setCell ⟨w.heap.size + 1, 0, none⟩ (Value.slice A0 b0.length c0)).setCell ⟨w.heap.size + 1, 1, none⟩ (Value.slice A1 b1.length c1)).setCell ⟨w.heap.size + 1, 2, none⟩ (Value.slice A2 bs.length c2)) _ _ _ := (((hL11.far (fun h => by (try dsimp only at h); omega) _).far (fun h => by (try dsimp only at h); omega) _).far (fun h => by (try dsimp only at h); omega) _)
  have hE12 : Blk (((w11.setCell ⟨w.heap.size + 1, 0, none⟩ (Value.slice A0 b0.length c0)).setCell ⟨w.heap.size + 1, 1, none⟩ (Value.slice A1 b1.length c1)).setCell ⟨w.heap.size + 1, 2, none⟩ (Value.slice A2 bs.length c2)) _ _ _ := (((hE11.far (fun h => by (try dsimp only at h); omega) _).far (fun h => by (try dsimp only at h); omega) _).far (fun h => by (try dsimp only at h); omega) _)
  have hf012 : Fr (fun _ => False) w (((w11.setCell ⟨w.heap.size + 1, 0, none⟩ (Value.slice A0 b0.length c0)).setCell ⟨w.heap.size + 1, 1, none⟩ (Value.slice A1 b1.length c1)).setCell ⟨w.heap.size + 1, 2, none⟩ (Value.slice A2 bs.length c2)) := (((hf011.setCell (p := ⟨w.heap.size + 1, 0, none⟩) (fun h => absurd h (by dsimp only; omega)) _).setCell (p := ⟨w.heap.size + 1, 1, none⟩) (fun h => absurd h (by dsimp only; omega)) _).setCell (p := ⟨w.heap.size + 1, 2, none⟩) (fun h => absurd h (by dsimp only; omega)) _)
  have hv012 : Own8 (((w11.setCell ⟨w.heap.size + 1, 0, none⟩ (Value.slice A0 b0.length c0)).setCell ⟨w.heap.size + 1, 1, none⟩ (Value.slice A1 b1.length c1)).setCell ⟨w.heap.size + 1, 2, none⟩ (Value.slice A2 bs.length c2)) _ _ _ := hv011.fr ((((Fr.refl (fun k => k = (w.heap.size + 1)) w11).setCell (p := ⟨w.heap.size + 1, 0, none⟩) (fun _ => rfl) _).setCell (p := ⟨w.heap.size + 1, 1, none⟩) (fun _ => rfl) _).setCell (p := ⟨w.heap.size + 1, 2, none⟩) (fun _ => rfl) _) (fun k hk h => hv011.ne_blk hR11 (by decide) (by rw [← h]; exact hk))
  have hv112 : Own8 (((w11.setCell ⟨w.heap.size + 1, 0, none⟩ (Value.slice A0 b0.length c0)).setCell ⟨w.heap.size + 1, 1, none⟩ (Value.slice A1 b1.length c1)).setCell ⟨w.heap.size + 1, 2, none⟩ (Value.slice A2 bs.length c2)) _ _ _ := hv111.fr ((((Fr.refl (fun k => k = (w.heap.size + 1)) w11).setCell (p := ⟨w.heap.size + 1, 0, none⟩) (fun _ => rfl) _).setCell (p := ⟨w.heap.size + 1, 1, none⟩) (fun _ => rfl) _).setCell (p := ⟨w.heap.size + 1, 2, none⟩) (fun _ => rfl) _) (fun k hk h => hv111.ne_blk hR11 (by decide) (by rw [← h]; exact hk))
  have hv212 : Own8 (((w11.setCell ⟨w.heap.size + 1, 0, none⟩ (Value.slice A0 b0.length c0)).setCell ⟨w.heap.size + 1, 1, none⟩ (Value.slice A1 b1.length c1)).setCell ⟨w.heap.size + 1, 2, none⟩ (Value.slice A2 bs.length c2)) _ _ _ := hv211.fr ((((Fr.refl (fun k => k = (w.heap.size + 1)) w11).setCell (p := ⟨w.heap.size + 1, 0, none⟩) (fun _ => rfl) _).setCell (p := ⟨w.heap.size + 1, 1, none⟩) (fun _ => rfl) _).setCell (p := ⟨w.heap.size + 1, 2, none⟩) (fun _ => rfl) _) (fun k hk h => hv211.ne_blk hR11 (by decide) (by rw [← h]; exact hk))
  generalize (((w11.setCell ⟨w.heap.size + 1, 0, none⟩ (Value.slice A0 b0.length c0)).setCell ⟨w.heap.size + 1, 1, none⟩ (Value.slice A1 b1.length c1)).setCell ⟨w.heap.size + 1, 2, none⟩ (Value.slice A2 bs.length c2)) = w12 at *
  have y0 := hR12.cell 0
  have y1 := hR12.cell 1
  have y2 := hR12.cell 2
  simp at y0 y1 y2
  try go_wp2_with fail
  refine bodyPost_ret (v := .tuple #[.agg #[(Value.slice A0 b0.length c0), (Value.slice A1 b1.length c1), (Value.slice A2 bs.length c2)], .bool true]) (by simp [results, Tryz.results123, go_sem, y0, y1, y2]) rfl ?_
  exact ⟨_, _, _, rfl, hv012.base_ (by omega), hv112.base_ (Nat.le_trans hf02.size (Nat.le_refl _)), hv212.base_ hf04.size, hf012⟩

end Go.Proofs.YtmkdhhhoodeemaaGreat
