/- cohortlaw12: Start. -/
import Derived.Test.YtcfanacfjcgnbaaGreatDoorLaw12
namespace Go.Proofs.YtcfanacfjcgnbaaGreatDoor
open Go Go.RowKit
def Started (w : World) (e : Ending) (w' : World) : Prop :=
  ∃ gw, e = .returned (.tuple #[.pointer (some ⟨gw, 0, none⟩), .bool true]) ∧ w.heap.size ≤ gw ∧ WS w' w.heap.size gw [] [] [] 0 ∧ Fr (fun _ => False) w w'
set_option maxRecDepth 100000 in
theorem law12_Start (w : World) : Calls Tryz.prog 6 #[] w (Started w) := by
  go_enter Tryz.func6, Tryz.ntmps6
  go_wp2_with fail
  refine (book_New _).mono ?_
  rintro e w1 ⟨g, m, rfl, hg, hm, hb1, hf1⟩
  go_wp2_with fail
  refine (seals_New _).mono ?_
  rintro e w2 ⟨gs, ms, rfl, hgs, hms, hs2, hf2⟩
  have hb2 := hb1.keep hf2
  have hmm : m ≠ ms := by
    obtain ⟨⟨es, cl, h3, _⟩, _⟩ := hb1.map
    have := lt_of_heap h3
    omega
  have hf02 := hf1.then_ hf2
  have hs1 := hf1.size
  have hrD := RBookAt.keep (g := w2.heap.size) (base := w2.heap.size) (v := .slice none 0 0) (L := []) ⟨Blk.new w2 _ _, [], ⟨rfl, .inl ⟨rfl, rfl⟩⟩, fun k s hs => by simp at hs⟩ ((Fr.refl (fun _ => False) _).alloc (Obj.cells #[.slice none 0 0] 72))
  have hrQ : RefAt ((w2.alloc (Obj.cells #[.slice none 0 0] 69)).alloc (Obj.cells #[.slice none 0 0] 72)) (w2.heap.size + 1) w2.heap.size (.slice none 0 0) [] := ⟨Blk.new_ _ _ _ (by simp), ⟨rfl, .inl ⟨rfl, rfl⟩⟩⟩
  have hbs : BS w2 g m w.heap.size (.slice none 0 0) [] gs ms [] := ⟨hb2, hs2, hmm⟩
  have hbs3 := hbs.keep (((Fr.refl (fun _ => False) _).alloc (Obj.cells #[.slice none 0 0] 69)).alloc (Obj.cells #[.slice none 0 0] 72))
  have hf03 := (hf02.alloc (Obj.cells #[.slice none 0 0] 69)).alloc (Obj.cells #[.slice none 0 0] 72)
  generalize hw3 : (w2.alloc (Obj.cells #[.slice none 0 0] 69)).alloc (Obj.cells #[.slice none 0 0] 72) = w3 at hrD hrQ hbs3 hf03
  have hz3 : w3.heap.size = w2.heap.size + 1 + 1 := by rw [← hw3]; simp
  have HZ3 := Lib.hid hz3
  have HW3 := Lib.hid hw3
  clear hw3 hz3
  have hWB := Blk.new w3 39 #[.pointer (some ⟨g, 0, none⟩), .pointer (some ⟨gs, 0, none⟩), .pointer (some ⟨w2.heap.size, 0, none⟩), .pointer (some ⟨w2.heap.size + 1, 0, none⟩)]
  rw [HZ3.out] at hWB
  have hW0 := hWB.cell 0
  have hW1 := hWB.cell 1
  go_upto_region 2 with fail
  rw [HW3.out]
  have HWB := Lib.hid hWB
  clear hWB hb1 hf1 hs2 hb2 hbs
  go_big_quiet (fail)
  go_wp2_with fail
  refine bodyPost_ret (v := .tuple #[.pointer (some ⟨w2.heap.size + 1 + 1, 0, none⟩), .bool true]) (by simp [results, Tryz.results6, go_sem]) rfl ?_
  have hfz : Fr (fun _ => False) w3 ((w3.alloc (Obj.cells #[.pointer (some ⟨g, 0, none⟩), .pointer (some ⟨gs, 0, none⟩), .pointer (some ⟨w2.heap.size, 0, none⟩), .pointer (some ⟨w2.heap.size + 1, 0, none⟩)] 39)).drewN nq) := ((Fr.refl _ _).alloc _).drewN _
  have hle := hf02.size
  have h3s := hfz.size
  have hz := HZ3.out
  have h4 := hf2.size
  refine ⟨w2.heap.size + 1 + 1, rfl, by omega, ⟨g, m, w.heap.size, .slice none 0 0, gs, ms, w2.heap.size, w2.heap.size, .slice none 0 0, w2.heap.size + 1, w2.heap.size, .slice none 0 0, [], ⟨HWB.out.drewN _, hbs3.keep hfz, hrD.keep hfz, hrQ.fr hfz id (fun _ _ => id), hg, hm, Nat.le_refl _, by omega, hle, hle, by omega, hle, by omega, by omega, by omega⟩, Nat.le_refl _⟩, hf03.then_ hfz⟩
end Go.Proofs.YtcfanacfjcgnbaaGreatDoor
