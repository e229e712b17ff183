/- book: Text. cohortref03: Digest. -/
import Derived.Test.YtcfanacfjcgnbaaGreatDoorBook
namespace Go.Proofs.YtcfanacfjcgnbaaGreatDoor
open Go Go.RowKit
def TextOut (w : World) (xs : List Int) (e : Ending) (w' : World) : Prop :=
  ∃ A cap, e = .returned (.tuple #[.slice A xs.length cap, .nilIface]) ∧ ByteRow w' (fun k => w.heap.size ≤ k) A xs ∧ Fr (fun _ => False) w w'
theorem strV_cell {w : World} {base : Nat} {A : Option Addr} {n cap : Nat} {L : List (List Int)} (h : w.ownsRow base 9 1 (.slice A n cap) n (L.map strV)) {k : Nat} {xs : List Int} (hk : L[k]? = some xs) : ∃ b, A = some ⟨b, 0, none⟩ ∧ w.cell? ⟨b, k, none⟩ = some (.string (strOfNums xs)) := by
  obtain ⟨A', cap', hv, _, hat⟩ := own_form h
  cases hv
  obtain ⟨b, hb, _, hc⟩ := hat k (strV xs) (by rw [List.getElem?_map, hk]; rfl)
  exact ⟨b, hb, hc⟩
set_option maxRecDepth 100000 in
theorem book_Text {w : World} {g m base : Nat} {v : Value} {L : List (List Int)} (h : BookAt w g m base v L) {k : Nat} {xs : List Int} (hk : L[k]? = some xs) (_hL : L.length < 65536) :
    Calls Tryz.prog 49 #[.pointer (some ⟨g, 0, none⟩), .int .i64 k] w (TextOut w xs) := by
  obtain ⟨hlt, hxs⟩ := List.getElem?_eq_some_iff.1 hk
  have h8 : B8 xs := h.map.2 xs (List.mem_of_getElem? hk)
  obtain ⟨A0, cap0, rfl, _, _⟩ := own_form h.own
  have c0 : w.cell? ⟨g, 0, none⟩ = some (.slice A0 L.length cap0) := h.blk.cell 0
  obtain ⟨b, rfl, hc⟩ := strV_cell h.own hk
  have hcs := run_str w (strOfNums xs)
  have hsz : (strOfNums xs).size = xs.length := strOfNums_size xs
  rw [hsz] at hcs
  have hrow := strW_row w (strOfNums xs)
  rw [bytesOf_strOf h8] at hrow
  have HR := Lib.hid hrow
  have HF := Lib.hid (strW_fr w (strOfNums xs))
  clear hxs hk hsz hrow h8
  go_enter Tryz.func49, Tryz.ntmps49
  go_wp2
  refine bodyPost_ret (v := .tuple #[.slice (some ⟨w.heap.size, 0, none⟩) xs.length (grownCap w xs.length 0 5), .nilIface]) (by simp [results, Tryz.results49, go_sem]) rfl ?_
  exact ⟨_, _, rfl, HR.out.mono (fun k e => by omega), HF.out⟩
/-- A block of bytes. -/
def U8 (w : World) (b : Nat) : Prop := ∃ cs fr, w.heap[b]? = some (.cells cs 5 fr)
theorem U8.fr {S : Nat → Prop} {w w' : World} {b : Nat} (h : U8 w b) (hf : Fr S w w') (hS : ¬ S b) : U8 w' b := by
  obtain ⟨cs, fr, h1⟩ := h
  exact ⟨cs, fr, hf.at_ h1 hS⟩
theorem U8.ne_blk {w : World} {b g : Nat} {t : TypeId} {cs : Array Value} (h : U8 w b) (hg : Blk w g t cs) (hne : 5 ≠ t) : b ≠ g := by
  obtain ⟨c, fr, h1⟩ := h
  rintro rfl
  unfold Blk at hg
  rw [hg] at h1
  injection h1 with h1
  injection h1 with _ h2
  exact hne h2.symm
theorem U8.ne_map {w : World} {b m : Nat} {L : List (List Int)} (h : U8 w b) (hm : StrMap w m L) : b ≠ m := by
  obtain ⟨c, fr, h1⟩ := h
  obtain ⟨⟨es, cl, h2, _⟩, _⟩ := hm
  rintro rfl
  rw [h2] at h1
  cases h1
theorem U8.ne_own {w : World} {b base : Nat} {e : TypeId} {size n : Nat} {v : Value} {xs : List Value} (h : U8 w b) (ho : w.ownsRow base e size v n xs) (hne : e ≠ 5) : v.ownBlock ≠ some b := by
  obtain ⟨c, fr, h1⟩ := h
  rcases ho.2 with ⟨rfl, _⟩ | ⟨g', cap, cur, rfl, _, hh, _⟩
  · simp [Value.ownBlock]
  · intro he
    cases he
    rw [hh] at h1
    injection h1 with h1
    injection h1 with _ h2
    exact hne h2
/-- The document's book at g: its row, its texts. -/
structure RBookAt (w : World) (g base : Nat) (v : Value) (L : List (List Int)) : Prop where
  blk : Blk w g 69 #[v]
  row : ∃ vals, w.ownsRow base 60 1 v L.length vals ∧ ∀ (k : Nat) s, L[k]? = some s → ∃ A cap, vals[k]? = some (.slice A s.length cap) ∧ ByteRow w (U8 w) A s
theorem ByteRow.u8 {w w' : World} {S : Nat → Prop} {A : Option Addr} {s : List Int} (h : ByteRow w (U8 w) A s) (hf : Fr S w w') (hS : ∀ b, U8 w b → ¬ S b) : ByteRow w' (U8 w') A s := fun k x hx => by
  obtain ⟨b, o, e, h1, hc⟩ := h k x hx
  exact ⟨b, o, e, h1.fr hf (hS b h1), hf.cell_some hc (hS b h1)⟩
theorem RBookAt.fr {S : Nat → Prop} {w w' : World} {g base : Nat} {v : Value} {L : List (List Int)} (h : RBookAt w g base v L) (hf : Fr S w w') (hg : ¬ S g) (hv : ∀ k, v.ownBlock = some k → ¬ S k) (hS : ∀ b, U8 w b → ¬ S b) : RBookAt w' g base v L := by
  obtain ⟨vals, h1, h2⟩ := h.row
  refine ⟨h.blk.fr hf hg, vals, own_fr h1 hf hv, fun k s hs => ?_⟩
  obtain ⟨A, cap, h3, h4⟩ := h2 k s hs
  exact ⟨A, cap, h3, h4.u8 hf hS⟩
theorem RBookAt.keep {w w' : World} {g base : Nat} {v : Value} {L : List (List Int)} (h : RBookAt w g base v L) (hf : Fr (fun _ => False) w w') : RBookAt w' g base v L := h.fr hf id (fun _ _ => id) (fun _ _ => id)
end Go.Proofs.YtcfanacfjcgnbaaGreatDoor
