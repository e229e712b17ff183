/- cohortlaw05.CertNone: the walk. -/
import Derived.Test.YtjnmfaaegbkmhaaDoorHead05
import Derived.Test.YtjnmfaaegbkmhaaDoorPlain05
import Derived.Test.YtjnmfaaegbkmhaaDoorCode
namespace Go.Proofs.YtjnmfaaegbkmhaaDoor
open Go Go.RowKit
theorem check_group {G D : Int} {L : List (Int × Int)} {xs : List Int} (hG : G < 0) : ∃ p, checkE G D L xs 1 = some p := by
  cases hE : checkE G D L xs 1 with
  | some p => exact ⟨p, rfl⟩
  | none =>
    obtain ⟨_, h, _, h1⟩ := checkE_none.1 hE
    cases xs with
    | nil => simp at h1
    | cons x r =>
      have := (h x List.mem_cons_self).1
      simp only [memberOf, if_pos (Or.inl hG : G < 0 ∨ _)] at this
      omega
set_option maxRecDepth 100000 in
set_option maxHeartbeats 1000000 in
theorem certNone_walk {w : World} (hG0 : Laid w) {A : Option Addr} {l : List (Int × Int × Int)} {cap : Nat} (hl : SealRow w A l) (hll : l.length ≤ 9223372036854775807)
    {B : Option Addr} {xs : List Int} {cap2 : Nat} (hr : IntRow w w.heap.size B xs) (hxl : xs.length ≤ 9223372036854775807) (gr0 dg nd G D : Int) (hn0 : 0 ≤ nd) (hn1 : nd ≤ 255) :
    Calls Tryd.prog 4 #[.slice A l.length cap, .int .i64 gr0, .int .i64 dg, .int .u8 nd, .agg #[.int .i64 G, .int .i64 D, .slice B xs.length cap2]] w (Fine w true) := by
  have hGb : 0 < w.heap.size := World.block_lt_of_cell? w _ hG0
  go_enter Tryd.func4, Tryd.ntmps4
  go_wp2_with fail
  have hb0 := Blk.new w 25 #[.int .i64 G, .int .i64 D, .slice B xs.length cap2]
  have hf0 : Fr (fun _ => False) w (w.alloc (Obj.cells #[.int .i64 G, .int .i64 D, .slice B xs.length cap2] 25)) := (Fr.refl _ _).alloc _
  refine (law05_head _).mono ?_
  rintro e w1 ⟨rfl, hf1⟩
  have hb1 := hb0.fr hf1 id
  have hf1' := hf0.then_ hf1
  clear hb0 hf0 hf1
  go_wp2_with fail
  refine (law05_signed (hl.fr hf1' (fun _ _ => id)) hll).mono ?_
  rintro e w2 ⟨g, m, gr, v, rfl, hg, hm, _, hs2, _, hf2⟩
  have hb2 := hb1.fr hf2 id
  have hf2' := hf1'.then_ hf2
  have c2 := hb2.cell 2
  clear hb1 hf1' hf2 hl hg hm
  generalize signTo l 200 = L at hs2
  by_cases h200 : xs.length ≤ 200
  · have h200' : ¬ (200 : Int) < (xs.length : Int) := by omega
    go_wp2_with fail
    clear h200' c2
    refine (cert_Make hs2 gr0 dg _).mono ?_
    rintro e w3 ⟨hf3, h3⟩
    have hs3 := hs2.fr hf3 id id
    have hb3 := hb2.fr hf3 id
    have hf3' := hf2'.then_ hf3
    have c0 := hb3.cell 0
    have c1 := hb3.cell 1
    have c2 := hb3.cell 2
    have hG3 := hG0.fr hf3' id
    have hlt3 := hb3.lt
    have hlt4 : w.heap.size < w3.heap.size + 1 := by omega
    clear hf3 hf2' hb2 hs2
    rcases h3 with ⟨hfew, rfl⟩ | ⟨hok, A2, cap3, rfl, hr3⟩
    · have hf4 : Fr (fun _ => False) w3 ((w3.alloc (Obj.cells #[.int .i64 0, .int .i64 0, .slice none 0 0] 25)).alloc (Obj.cells #[.int .i64 (-1 - nd), .int .i64 D, .slice B xs.length cap2] 25)) := ((Fr.refl _ _).alloc _).alloc _
      have hb4 := Blk.new_ (w3.alloc (Obj.cells #[.int .i64 0, .int .i64 0, .slice none 0 0] 25)) 25 #[.int .i64 (-1 - nd), .int .i64 D, .slice B xs.length cap2] (n := w3.heap.size + 1) (by simp)
      go_wp2_with fail
      refine (fault_Code (hG3.fr hf4 id) _ _).mono ?_
      rintro e w5 ⟨rfl, hf5⟩
      have hf6 := hf4.then_ hf5
      have hs5 := hs3.fr hf6 id id
      have hb5 := hb3.fr hf6 id
      have hbx := hb4.fr hf5 id
      have hf5' := hf3'.then_ hf6
      have d0 := hb5.cell 0
      have d1 := hb5.cell 1
      have d2 := hb5.cell 2
      clear hf4 hf5 hf6 hs3 hb3 hf3' hb4 c0 c1 c2 hG3 hlt3 hlt4
      go_wp2_with fail
      refine (cert_Check hs5 ((hr.fr hf5' (fun _ _ => id)).mono hf5'.size) hxl G D _).mono ?_
      rintro e w6 ⟨rfl, hf6⟩
      obtain ⟨p, hp⟩ := check_under (G := G) (D := D) (L := L) (xs := xs) (need := -nd) (by omega)
      obtain ⟨t, v, hv⟩ := errO_some p
      rw [hp, hv]
      have hf6' := hf5'.then_ hf6
      have hs6 := hs5.fr hf6 id id
      have hbx6 := hbx.fr hf6 id
      have e0 := hbx6.cell 0
      have e1 := hbx6.cell 1
      have e2 := hbx6.cell 2
      clear hp hv hf6 hf5' hs5 hb5 hbx d0 d1 d2
      go_wp2_with fail
      refine (cert_Check hs6 ((hr.fr hf6' (fun _ _ => id)).mono hf6'.size) hxl _ D _).mono ?_
      rintro e w7 ⟨rfl, hf7⟩
      obtain ⟨p, hp⟩ := check_group (G := -1 - nd) (D := D) (L := L) (xs := xs) (by omega)
      obtain ⟨t, v, hv⟩ := errO_some p
      rw [hp, hv]
      have hf7' := hf6'.then_ hf7
      clear hp hv hf7 hf6' hs6 hbx6 e0 e1 e2
      go_wp2
      go_ret
      exact ⟨rfl, hf7'⟩
    · exfalso; omega
  · have h200' : (200 : Int) < (xs.length : Int) := by omega
    go_wp2
    go_ret
    exact ⟨rfl, hf2'⟩
end Go.Proofs.YtjnmfaaegbkmhaaDoor
