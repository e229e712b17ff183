/- reflectlite.Value.Set at a fault.wrapped. -/
import Derived.Test.YtkbcobbnjiekfaaDoorAsW
import Derived.Laws.Rows
import Derived.Laws.Tables
namespace Go.Proofs.YtkbcobbnjiekfaaDoor
open Go Go.RowKit
theorem size_w : (Tryd.prog.info? 97).map (·.size) = some 3 := by kernel_rfl
theorem Blk.setRow {w : World} {g : Nat} {t : TypeId} {cs ds : Array Value} (h : Blk w g t cs) : Blk (w.setRow g ds) g t ds := by
  have hlt := h.lt
  have e := h
  simp only [Blk, World.setRow] at e ⊢
  simp [Array.getElem?_modify, e]
theorem Fr.setRow {w : World} {g : Nat} {ds : Array Value} : Fr (fun k => k = g) w (w.setRow g ds) := by
  refine ⟨rfl, rfl, rfl, by simp [World.setRow], fun k _ hk => ?_⟩
  have : g ≠ k := fun e => hk e.symm
  simp [World.setRow, Array.getElem?_modify, this]
theorem as_Set_w {w : World} {g h : Nat} {s n e s0 n0 e0 : Value} (hb : Blk w h 97 #[s, n, e]) (hg : Blk w g 97 #[s0, n0, e0]) (h1 : #[s, n, e].all (·.oneCell') = true) :
    (callFunc 79 #[.agg #[(.pointer (some ⟨4, 97, none⟩)), .pointer (some ⟨g, 0, none⟩), .int .u64 409], .agg #[(.pointer (some ⟨4, 97, none⟩)), .pointer (some ⟨h, 0, none⟩), .int .u64 153]]).run Tryd.prog w = .ok (.value (.tuple #[])) (w.setRow g #[s, n, e]) := by
  rw [run_callFunc_extern Tryd.func79 (by kernel_rfl) (by kernel_rfl) (by kernel_rfl) find_Set]
  have p1 := parts_wd w ⟨g, 0, none⟩
  have p2 := parts_w w ⟨h, 0, none⟩
  have p3 := direct_ww w
  have hl := run_loadVar_row (P := Tryd.prog) w h 97 97 #[s, n, e] (0, 0) _ hb Tryd.underlying97 (by rfl) size_w
  have hs := run_storeVar_row (P := Tryd.prog) w g 97 97 #[s0, n0, e0] #[s, n, e] hg size_w rfl h1
  obtain ⟨zero, bad, other, he⟩ := set_eq (.agg #[(.pointer (some ⟨4, 97, none⟩)), .pointer (some ⟨g, 0, none⟩), .int .u64 409]) (.agg #[(.pointer (some ⟨4, 97, none⟩)), .pointer (some ⟨h, 0, none⟩), .int .u64 153])
  rw [he]
  simp [p1, p2, p3, hl, hs, Extern.ReflectliteValue.flagAddr]
end Go.Proofs.YtkbcobbnjiekfaaDoor
