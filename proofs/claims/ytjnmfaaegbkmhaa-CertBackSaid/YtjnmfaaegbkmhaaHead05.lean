/- cohortlaw05.head: true. -/
import Derived.Test.YtjnmfaaegbkmhaaSigned
import Derived.Test.YtjnmfaaegbkmhaaMake
import Derived.Test.YtjnmfaaegbkmhaaText
namespace Go.Proofs.Ytjnmfaaegbkmhaa
open Go Go.RowKit
def headL : List (Int × Int) := [(116, 5), (117, 5), (119, 5)]
theorem headL_eq : signTo [(1, 0, 5), (1, 1, 5), (1, 3, 5)] 200 = headL := by decide
theorem head_who : whoInts 1 5 headL = [0, 1, 3] := by decide
theorem head_check1 : checkE 1 5 headL [0, 1, 3] 3 = none := by decide
theorem head_check2 : checkE 1 5 headL [0, 1, 1] 3 = some ([((⟨#[115, 105, 103, 110, 101, 114]⟩ : ByteArray), 2)], 52) := by decide
theorem head_check3 : checkE 1 5 headL [0, 1] 3 = some ([((⟨#[99, 104, 101, 99, 107]⟩ : ByteArray), 2)], 51) := by decide
theorem head_text2 : errText [((⟨#[115, 105, 103, 110, 101, 114]⟩ : ByteArray), 2)] 52 = (⟨#[115, 105, 103, 110, 101, 114, 32, 50, 58, 32, 99, 111, 104, 111, 114, 116, 58, 32, 101, 114, 114, 111, 114, 32, 53, 50]⟩ : ByteArray) := by decide +kernel
theorem head_text3 : errText [((⟨#[99, 104, 101, 99, 107]⟩ : ByteArray), 2)] 51 = (⟨#[99, 104, 101, 99, 107, 32, 50, 58, 32, 99, 111, 104, 111, 114, 116, 58, 32, 101, 114, 114, 111, 114, 32, 53, 49]⟩ : ByteArray) := by decide +kernel

def Fine (w : World) (b : Bool) (e : Ending) (w' : World) : Prop := e = .returned (.bool b) ∧ Fr (fun _ => False) w w'
theorem sealRow3 (w : World) : SealRow (w.alloc (.cells #[.int .i64 1, .int .i64 0, .int .i64 5, .int .i64 1, .int .i64 1, .int .i64 5, .int .i64 1, .int .i64 3, .int .i64 5] 42)) (some ⟨w.heap.size, 0, none⟩) [(1, 0, 5), (1, 1, 5), (1, 3, 5)] := by
  intro k s hs
  have hb := Blk.new w 42 #[.int .i64 1, .int .i64 0, .int .i64 5, .int .i64 1, .int .i64 1, .int .i64 5, .int .i64 1, .int .i64 3, .int .i64 5]
  refine ⟨w.heap.size, 0, rfl, by simp, ?_⟩
  rw [hb.cell, hb.cell, hb.cell]
  match k, hs with
  | 0, hs => cases hs; exact ⟨rfl, rfl, rfl⟩
  | 1, hs => cases hs; exact ⟨rfl, rfl, rfl⟩
  | 2, hs => cases hs; exact ⟨rfl, rfl, rfl⟩
theorem intRow3 {w : World} {g : Nat} {t : TypeId} (a b c : Int) (h : Blk w g t #[.int .i64 a, .int .i64 b, .int .i64 c]) : IntRow w w.heap.size (some ⟨g, 0, none⟩) [a, b, c] := by
  intro k x hx
  refine ⟨g, 0, rfl, h.lt, ?_⟩
  rw [h.cell]
  match k, hx with
  | 0, hx => cases hx; rfl
  | 1, hx => cases hx; rfl
  | 2, hx => cases hx; rfl
theorem intRow2 {w : World} {g : Nat} {t : TypeId} (a b : Int) (h : Blk w g t #[.int .i64 a, .int .i64 b]) : IntRow w w.heap.size (some ⟨g, 0, none⟩) [a, b] := by
  intro k x hx
  refine ⟨g, 0, rfl, h.lt, ?_⟩
  rw [h.cell]
  match k, hx with
  | 0, hx => cases hx; rfl
  | 1, hx => cases hx; rfl
set_option maxRecDepth 100000 in
theorem law05_head (w : World) : Calls Try.prog 6 #[] w (Fine w true) := by
  go_enter Try.func6, Try.ntmps6
  go_wp2_with fail
  refine (law05_signed (l := [(1, 0, 5), (1, 1, 5), (1, 3, 5)]) (sealRow3 w) (by decide)).mono ?_
  rintro e w1 ⟨g, m, gr, v, rfl, hg, hm, _, hs, _, hf1⟩
  rw [headL_eq] at hs
  have hf1' : Fr (fun _ => False) w w1 := ((Fr.refl _ _).alloc _).then_ hf1
  clear hf1
  go_wp2_with fail
  refine (cert_Make hs 1 5 3).mono ?_
  rintro e w2 ⟨hf2, h2⟩
  rw [head_who] at h2
  rcases h2 with ⟨h2, _⟩ | ⟨_, A, cap, rfl, hr2⟩
  · exact absurd h2 (by decide)
  have hs2 := hs.fr hf2 id id
  have hf2' := hf1'.then_ hf2
  clear hs hf2
  have hr2' : IntRow w2 w2.heap.size A [0, 1, 3] := hr2
  clear hr2
  obtain ⟨b, o, rfl, hb, hc⟩ := hr2' 2 3 rfl
  have hb3 := Blk.new w2 25 #[.int .i64 1, .int .i64 5, .slice (some ⟨b, o, none⟩) 3 cap]
  have hf3 : Fr (fun _ => False) w2 (w2.alloc (Obj.cells #[.int .i64 1, .int .i64 5, .slice (some ⟨b, o, none⟩) 3 cap] 25)) := (Fr.refl _ _).alloc _
  go_wp2_with fail
  refine (cert_Check (hs2.fr hf3 id id) (xs := [0, 1, 3]) ((hr2'.fr hf3 (fun _ _ => id)).mono (by simp)) (by decide) 1 5 3).mono ?_
  rintro e w4 ⟨rfl, hf4⟩
  rw [head_check1]
  have hf5 := hf3.then_ hf4
  have hs4 := hs2.fr hf5 id id
  have hb4 := hb3.fr hf4 id
  have hf6 := hf2'.then_ hf5
  have hc4 := hf5.cell_some hc id
  clear hb3 hf3 hf4 hs2 hf2' hf5 hr2'
  simp only [errO]
  go_wp2_with fail
  have hf7 : Fr (fun _ => False) w4 (w4.alloc (Obj.cells #[.int .i64 0, .int .i64 1, .int .i64 1] 3)) := (Fr.refl _ _).alloc _
  refine (cert_Check (hs4.fr hf7 id id) (xs := [0, 1, 1]) (intRow3 _ _ _ (Blk.new _ _ _)) (by decide) 1 5 3).mono ?_
  rintro e w5 ⟨rfl, hf8⟩
  rw [head_check2]
  have hf9 := hf7.then_ hf8
  have hs5 := hs4.fr hf9 id id
  have hb5 := hb4.fr hf9 id
  have hf10 := hf6.then_ hf9
  have hc5 := hf9.cell_some hc4 id
  clear hf7 hf8 hf9 hs4 hb4 hf6 hc4
  simp only [errO]
  go_wp2_with fail
  have hf7 : Fr (fun _ => False) w5 (w5.alloc (Obj.cells #[.int .i64 0, .int .i64 1] 3)) := (Fr.refl _ _).alloc _
  refine (cert_Check (hs5.fr hf7 id id) (xs := [0, 1]) (intRow2 _ _ (Blk.new _ _ _)) (by decide) 1 5 3).mono ?_
  rintro e w6 ⟨rfl, hf8⟩
  rw [head_check3]
  have hf9 := hf7.then_ hf8
  have hb6 := hb5.fr hf9 id
  have hf11 := hf10.then_ hf9
  have hc6 := hf9.cell_some hc5 id
  clear hf7 hf8 hf9 hs5 hb5 hf10 hc5
  simp only [errO]
  have k2 := hb6.cell 2
  go_wp2_with fail
  have ht := fault_Text1 ((⟨#[115, 105, 103, 110, 101, 114]⟩ : ByteArray)) 2 52 (by decide) (by decide) (by decide) w6
  rw [head_text2] at ht
  refine ht.mono ?_
  rintro e w7 ⟨rfl, hf12⟩
  have hf13 := hf11.then_ hf12
  clear ht hf11 hf12 hb6 k2 hc6
  go_wp2_with fail
  have ht := fault_Text1 ((⟨#[99, 104, 101, 99, 107]⟩ : ByteArray)) 2 51 (by decide) (by decide) (by decide) w7
  rw [head_text3] at ht
  refine ht.mono ?_
  rintro e w8 ⟨rfl, hf14⟩
  have hf15 := hf13.then_ hf14
  clear ht hf13 hf14
  go_wp2
  go_ret
  exact ⟨rfl, hf15⟩
end Go.Proofs.Ytjnmfaaegbkmhaa
