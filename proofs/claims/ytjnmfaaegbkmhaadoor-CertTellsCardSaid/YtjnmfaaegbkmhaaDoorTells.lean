/- cohortlaw05.CertTells: the walk. -/
import Derived.Test.YtjnmfaaegbkmhaaDoorRef05
import Derived.Test.YtjnmfaaegbkmhaaDoorHead05
import Derived.Deep.RegionHeld3
namespace Go.Proofs.YtjnmfaaegbkmhaaDoor
open Go Go.RowKit
section
variable {G D need : Int} {L : List (Int × Int)}
theorem chkErr_one : ∀ (xs : List Int) (last : Int) (i : Nat) p, chkErr G D L last i xs = some p → p.2 ≠ 0 ∧ p.1 = [p.1.headD (⟨#[]⟩, 0)]
  | [], _, _, _, h => by cases h
  | x :: r, last, i, p, h => by
    unfold chkErr at h
    split at h
    · exact chkErr_one r x (i + 1) p h
    · rename_i h0
      cases h
      exact ⟨h0, rfl⟩
theorem checkE_one {xs : List Int} (p) (h : checkE G D L xs need = some p) : p.2 ≠ 0 ∧ p.1 = [p.1.headD (⟨#[]⟩, 0)] := by
  cases hE : chkErr G D L (-1) 0 xs with
  | some q =>
    rw [checkE_some hE] at h
    cases h
    exact chkErr_one _ _ _ _ hE
  | none =>
    by_cases hf : need < 1 ∨ (xs.length : Int) < need
    · rw [checkE_few hE hf] at h
      cases h
      exact ⟨by simp, rfl⟩
    · rw [checkE_ok hE hf] at h
      cases h
end
def Few (G D : Int) (L : List (Int × Int)) (need : Int) : Prop := need < 1 ∨ ((whoInts G D L).length : Int) < need
instance (G D : Int) (L : List (Int × Int)) (need : Int) : Decidable (Few G D L need) := by unfold Few; infer_instance
def mX (G D : Int) (L : List (Int × Int)) (need : Int) : List Int := if Few G D L need then [] else (whoInts G D L).take need.toNat
def mO (G D : Int) (L : List (Int × Int)) (need : Int) : Option (List (ByteArray × Int) × Int) := if Few G D L need then some ([((⟨#[109, 97, 107, 101]⟩ : ByteArray), ((whoInts G D L).length : Int))], 51) else none
def mI (G D : Int) (L : List (Int × Int)) (need x : Int) : Int := if Few G D L need then 0 else x
theorem intRow_empty {w : World} {B : Nat} {A : Option Addr} {G D : Int} {L : List (Int × Int)} {need : Int} (h : Few G D L need) : IntRow w B A (mX G D L need) := by
  rw [mX, if_pos h]
  intro k x hx
  cases hx
theorem made_form {w w' : World} {G D : Int} {L : List (Int × Int)} {need : Int} {e : Ending} (h : Made w G D L need e w') :
    ∃ A cap, e = .returned (.tuple #[.agg #[.int .i64 (mI G D L need G), .int .i64 (mI G D L need D), .slice A (mX G D L need).length cap], errO (mO G D L need)]) ∧ IntRow w' w'.heap.size A (mX G D L need) ∧ Fr (fun _ => False) w w' := by
  obtain ⟨hf, ⟨h1, rfl⟩ | ⟨h1, A, cap, rfl, hr⟩⟩ := h
  · have h2 : Few G D L need := h1
    exact ⟨none, 0, by simp only [mI, mX, mO, if_pos h2]; rfl, intRow_empty h2, hf⟩
  · have h2 : ¬ Few G D L need := h1
    exact ⟨A, cap, by simp only [mI, mX, mO, if_neg h2]; rfl, by rw [mX, if_neg h2]; exact hr, hf⟩
theorem refMade_form {w w' : World} {G D : Int} {L : List (Int × Int)} {need : Int} {e : Ending} (h : RefMade w G D L need e w') :
    ∃ A cap, e = .returned (.tuple #[.agg #[.int .i64 (mI G D L need G), .int .i64 (mI G D L need D), .slice A (mX G D L need).length cap], .int .i64 (ansC (mO G D L need)), .agg #[.string (ansS (mO G D L need)).1, .int .i64 (ansS (mO G D L need)).2]]) ∧ IntRow w' w'.heap.size A (mX G D L need) ∧ Fr (fun _ => False) w w' := by
  obtain ⟨hf, ⟨h1, rfl⟩ | ⟨h1, A, cap, rfl, hr⟩⟩ := h
  · have h2 : Few G D L need := h1
    exact ⟨none, 0, by simp only [mI, mX, mO, if_pos h2]; rfl, intRow_empty h2, hf⟩
  · have h2 : ¬ Few G D L need := h1
    exact ⟨A, cap, by simp only [mI, mX, mO, if_neg h2]; rfl, by rw [mX, if_neg h2]; exact hr, hf⟩
theorem mO_one {G D : Int} {L : List (Int × Int)} {need : Int} (p) (h : mO G D L need = some p) : p.2 ≠ 0 ∧ p.1 = [p.1.headD (⟨#[]⟩, 0)] := by
  unfold mO at h
  split at h
  · cases h
    exact ⟨by simp, rfl⟩
  · cases h
theorem mX_le (G D : Int) (L : List (Int × Int)) (need : Int) : (mX G D L need).length ≤ 10 := by
  have h := whoInts_length G D L
  have h' := whoTo_le G D L 10
  unfold mX
  split
  · simp
  · rw [List.length_take]; omega
def OneErr (o : Option (List (ByteArray × Int) × Int)) : Prop := ∀ p, o = some p → p.2 ≠ 0 ∧ p.1 = [p.1.headD (⟨#[]⟩, 0)]
theorem StepRow.new (w : World) (s : ByteArray × Int) : StepRow (w.alloc (.cells #[.string s.1, .int .i64 s.2] 43)) (some ⟨w.heap.size, 0, none⟩) [s] := by
  intro k x hx
  cases k with
  | zero =>
    simp only [List.getElem?_cons_zero, Option.some.injEq] at hx
    subst hx
    exact ⟨w.heap.size, 0, rfl, (Blk.new w 43 #[.string s.1, .int .i64 s.2]).cell 0, (Blk.new w 43 #[.string s.1, .int .i64 s.2]).cell 1⟩
  | succ k => simp at hx
theorem told_any {w : World} (hG : Laid w) {o : Option (List (ByteArray × Int) × Int)} (ho : OneErr o) {A : Option Addr} {cap : Nat} (hr : StepRow w A [ansS o]) :
    Calls Tryd.prog 16 #[errO o, .int .i64 (ansC o), .slice A 1 cap] w (Yes w) := by
  cases o with
  | none => exact told_none w _
  | some p =>
    obtain ⟨h1, h2⟩ := ho p rfl
    have h3 : StepRow w A p.1 := by rw [h2]; exact hr
    exact told_some hG p.1 p.2 h1 (by rw [h2]; simp) (by rw [h2]; rfl) h3
def CheckedO (w : World) (o : Option (List (ByteArray × Int) × Int)) (e : Ending) (w' : World) : Prop := e = .returned (errO o) ∧ Fr (fun _ => False) w w'
theorem cert_Check_o {w : World} {g m : Nat} {L : List (Int × Int)} {G D need : Int} {xs : List Int} {o : Option (List (ByteArray × Int) × Int)} (ho : checkE G D L xs need = o) (hs : SealsAt w g m L) {A : Option Addr} {cap : Nat} (hr : IntRow w w.heap.size A xs) (hlen : xs.length ≤ 9223372036854775807) :
    Calls Tryd.prog 8 #[.pointer (some ⟨g, 0, none⟩), .agg #[.int .i64 G, .int .i64 D, .slice A xs.length cap], .int .i64 need] w (CheckedO w o) := by
  subst ho
  exact cert_Check hs hr hlen G D need
set_option maxRecDepth 100000 in
set_option maxHeartbeats 1000000 in
theorem certTells_walk {w : World} (hG0 : Laid w) {A : Option Addr} {l : List (Int × Int × Int)} {cap : Nat} (hl : SealRow w A l) (hll : l.length ≤ 9223372036854775807)
    {B : Option Addr} {xs : List Int} {cap2 : Nat} (hr : IntRow w w.heap.size B xs) (hxl : xs.length ≤ 9223372036854775807) (gr di need G D : Int) :
    Calls Tryd.prog 5 #[.slice A l.length cap, .int .i64 gr, .int .i64 di, .int .i64 need, .agg #[.int .i64 G, .int .i64 D, .slice B xs.length cap2]] w (Fine w true) := by
  have hGb : 0 < w.heap.size := World.block_lt_of_cell? w _ hG0
  go_enter Tryd.func5, Tryd.ntmps5
  go_wp2_with fail
  have hb0 := Blk.new w 25 #[.int .i64 G, .int .i64 D, .slice B xs.length cap2]
  have hf0 : Fr (fun _ => False) w (w.alloc (Obj.cells #[.int .i64 G, .int .i64 D, .slice B xs.length cap2] 25)) := (Fr.refl _ _).alloc _
  refine (law05_head _).mono ?_
  rintro e w1 ⟨rfl, hf1⟩
  have hb1 := hb0.fr hf1 id
  have hf1' := hf0.then_ hf1
  clear hb0 hf0 hf1
  go_wp2_with fail
  refine (law05_signed (hl.fr hf1' (fun _ _ => id)) hll).mono ?_
  rintro e w2 ⟨g, m, gg, v, rfl, hg, hm, hgg, hs2, hq2, hf2⟩
  have hb2 := hb1.fr hf2 id
  have hf2' := hf1'.then_ hf2
  have c0 := hb2.cell 0
  have c1 := hb2.cell 1
  have c2 := hb2.cell 2
  have hL : (signTo l 200).length ≤ 1099511627776 := by have := signTo_le l 200; omega
  clear hb1 hf1' hl hg hm hgg
  generalize signTo l 200 = L at hs2 hq2 hL
  by_cases h200 : xs.length ≤ 200
  · have h200' : ¬ (200 : Int) < (xs.length : Int) := by omega
    go_wp2_with fail
    clear h200'
    refine (cert_Make hs2 gr di need).mono ?_
    intro e w3 h3
    obtain ⟨A3, cap3, rfl, hr3, hf3⟩ := made_form h3
    clear h3
    have hf3' := hf2'.then_ hf3
    have hb3 := hb2.fr hf3 id
    have hs3 := hs2.fr hf3 id id
    have hq3 := hq2.fr hf3 id (fun _ _ => id)
    have hmx := mX_le gr di L need
    have ho : OneErr (mO gr di L need) := mO_one
    go_wp2_with fail
    have hbx3 := Blk.new w3 25 #[.int .i64 (mI gr di L need gr), .int .i64 (mI gr di L need di), .slice A3 (mX gr di L need).length cap3]
    have hf34 : Fr (fun _ => False) w3 (w3.alloc (Obj.cells #[.int .i64 (mI gr di L need gr), .int .i64 (mI gr di L need di), .slice A3 (mX gr di L need).length cap3] 25)) := (Fr.refl _ _).alloc _
    refine (ref05_Make (hq3.fr hf34 id (fun _ _ => id)) hL gr di need).mono ?_
    intro e w5 h5
    obtain ⟨A5, cap5, rfl, hr5, hf45⟩ := refMade_form h5
    clear h5
    have hf35 := hf34.then_ hf45
    have hf5 := hf3'.then_ hf35
    have hb5 := hb3.fr hf35 id
    have hs5 := hs3.fr hf35 id id
    have hq5 := hq3.fr hf35 id (fun _ _ => id)
    have hr35 := hr3.fr hf35 (fun _ _ => id)
    have hbx5 := hbx3.fr hf45 id
    have hr2' := (hr.fr hf5 (fun _ _ => id))
    clear hbx3 hf34 hf45 hf3' hf3 hb3 hs3 hq3 hr3 hf2' hb2 hs2 hq2 hr c0 c1 c2
    generalize mO gr di L need = o1 at *
    generalize mX gr di L need = zs at *
    generalize mI gr di L need gr = g1 at *
    generalize mI gr di L need di = g2 at *
    have c0 := hb5.cell 0
    have c1 := hb5.cell 1
    have c2 := hb5.cell 2
    have hlt5 := hb5.lt
    have hlt6 : w.heap.size < w5.heap.size + 1 := by omega
    go_wp2_with fail
    have hby7 := (Blk.new w5 25 #[.int .i64 g1, .int .i64 g2, .slice A5 zs.length cap5]).alloc (Obj.cells #[.string (ansS o1).1, .int .i64 (ansS o1).2] 43)
    have hbs7 := Blk.new_ (w5.alloc (Obj.cells #[.int .i64 g1, .int .i64 g2, .slice A5 zs.length cap5] 25)) 43 #[.string (ansS o1).1, .int .i64 (ansS o1).2] (n := w5.heap.size + 1) (by simp)
    have hf57 : Fr (fun _ => False) w5 ((w5.alloc (Obj.cells #[.int .i64 g1, .int .i64 g2, .slice A5 zs.length cap5] 25)).alloc (Obj.cells #[.string (ansS o1).1, .int .i64 (ansS o1).2] 43)) := ((Fr.refl _ _).alloc _).alloc _
    refine (ref05_Check (hq5.fr hf57 id (fun _ _ => id)) hL ((hr2'.fr hf57 (fun _ _ => id)).mono (Nat.le_trans (Nat.le_of_lt hb5.lt) hf57.size)) hxl G D need).mono ?_
    rintro e w8 ⟨rfl, hf78⟩
    have ho2 : OneErr (checkE G D L xs need) := checkE_one
    obtain ⟨o2, HO⟩ : ∃ o2, Hid (checkE G D L xs need = o2) := ⟨_, rfl⟩
    rw [HO.out] at ho2 ⊢
    go_wp2_with fail
    have hf58 := hf57.then_ hf78
    have hf59 := hf58.alloc (Obj.cells #[.string (ansS o2).1, .int .i64 (ansS o2).2] 43)
    have hf89 := hf78.alloc (Obj.cells #[.string (ansS o2).1, .int .i64 (ansS o2).2] 43)
    have ht9 := Blk.new w8 43 #[.string (ansS o2).1, .int .i64 (ansS o2).2]
    have hc9 := hb5.fr hf59 id
    have hx9 := hbx5.fr hf59 id
    have hy9 := hby7.fr hf89 id
    have hs9 := hbs7.fr hf89 id
    have hxr := hr35.fr hf59 (fun _ _ => id)
    have hyr := hr5.fr hf59 (fun _ _ => id)
    have hcr := (hr2'.fr hf59 (fun _ _ => id)).mono (Nat.le_trans (Nat.le_of_lt hb5.lt) hf59.size)
    have hsl := hs5.fr hf59 id id
    have hf9 := hf5.then_ hf59
    have hG9 := hG0.fr hf9 id
    generalize hW : w8.alloc (Obj.cells #[.string (ansS o2).1, .int .i64 (ansS o2).2] 43) = w9 at ht9 hc9 hx9 hy9 hs9 hxr hyr hcr hsl hf9 hG9 ⊢
    clear hW hf59 hf89 hf58 hf78 hf57 hby7 hbs7 c0 c1 c2 hlt5 hlt6 hb5 hs5 hq5 hr2' hr5 hr35 hbx5 hf5 hf35 hf2
    have five : ∀ w', Fr (fun _ => False) w9 w' → w'.cell? ⟨w.heap.size, 0, none⟩ = some (.int .i64 G) ∧ w'.cell? ⟨w.heap.size, 1, none⟩ = some (.int .i64 D) ∧ w'.cell? ⟨w.heap.size, 2, none⟩ = some (.slice B xs.length cap2) ∧ w'.cell? ⟨w3.heap.size, 0, none⟩ = some (.int .i64 g1) ∧ w'.cell? ⟨w3.heap.size, 1, none⟩ = some (.int .i64 g2) ∧ w'.cell? ⟨w3.heap.size, 2, none⟩ = some (.slice A3 zs.length cap3) ∧ w'.cell? ⟨w5.heap.size, 0, none⟩ = some (.int .i64 g1) ∧ w'.cell? ⟨w5.heap.size, 1, none⟩ = some (.int .i64 g2) ∧ w'.cell? ⟨w5.heap.size, 2, none⟩ = some (.slice A5 zs.length cap5) ∧ w'.cell? ⟨w5.heap.size + 1, 0, none⟩ = some (.string (ansS o1).1) ∧ w'.cell? ⟨w5.heap.size + 1, 1, none⟩ = some (.int .i64 (ansS o1).2) ∧ w'.cell? ⟨w8.heap.size, 0, none⟩ = some (.string (ansS o2).1) ∧ w'.cell? ⟨w8.heap.size, 1, none⟩ = some (.int .i64 (ansS o2).2) := fun w' h => ⟨(hc9.fr h id).cell 0, (hc9.fr h id).cell 1, (hc9.fr h id).cell 2, (hx9.fr h id).cell 0, (hx9.fr h id).cell 1, (hx9.fr h id).cell 2, (hy9.fr h id).cell 0, (hy9.fr h id).cell 1, (hy9.fr h id).cell 2, (hs9.fr h id).cell 0, (hs9.fr h id).cell 1, (ht9.fr h id).cell 0, (ht9.fr h id).cell 1⟩
    have f9 : Fr (fun _ => False) w9 w9.drew := (Fr.refl _ _).drew
    go_region_held3 (fun w' => w'.cell? ⟨w.heap.size, 0, none⟩ = some (.int .i64 G) ∧ w'.cell? ⟨w.heap.size, 1, none⟩ = some (.int .i64 D) ∧ w'.cell? ⟨w.heap.size, 2, none⟩ = some (.slice B xs.length cap2) ∧ w'.cell? ⟨w3.heap.size, 0, none⟩ = some (.int .i64 g1) ∧ w'.cell? ⟨w3.heap.size, 1, none⟩ = some (.int .i64 g2) ∧ w'.cell? ⟨w3.heap.size, 2, none⟩ = some (.slice A3 zs.length cap3) ∧ w'.cell? ⟨w5.heap.size, 0, none⟩ = some (.int .i64 g1) ∧ w'.cell? ⟨w5.heap.size, 1, none⟩ = some (.int .i64 g2) ∧ w'.cell? ⟨w5.heap.size, 2, none⟩ = some (.slice A5 zs.length cap5) ∧ w'.cell? ⟨w5.heap.size + 1, 0, none⟩ = some (.string (ansS o1).1) ∧ w'.cell? ⟨w5.heap.size + 1, 1, none⟩ = some (.int .i64 (ansS o1).2) ∧ w'.cell? ⟨w8.heap.size, 0, none⟩ = some (.string (ansS o2).1) ∧ w'.cell? ⟨w8.heap.size, 1, none⟩ = some (.int .i64 (ansS o2).2)) (first | with_reducible exact five _ f13 | with_reducible exact five _ f12b | with_reducible exact five _ f11a | with_reducible exact five _ f12a | with_reducible exact five _ f12 | with_reducible exact five _ f11 | with_reducible exact five _ f10a | with_reducible exact five _ f10 | with_reducible exact five _ f9) (first | (go_at_call 15; refine (ref05_Same (hxr.fr f9 (fun _ _ => id)) (hyr.fr f9 (fun _ _ => id)) (by omega) rfl g1 g2).mono ?_; rintro e w10 ⟨rfl, hf10⟩; have f10 := f9.then_ hf10; have f10a := f10.alloc (Obj.cells #[.string (ansS o1).1, .int .i64 (ansS o1).2] 43)) | (go_at_call 16; refine (told_any (hG9.fr f12b id) ho2 r12b).mono ?_; rintro e w13 ⟨rfl, hf13⟩; have f13 := f12b.then_ hf13) | (go_at_call 16; refine (told_any (hG9.fr f12a id) ho2 (StepRow.new w12 _)).mono ?_; rintro e w13 ⟨rfl, hf13⟩; have f13 := f12a.then_ hf13) | (go_at_call 16; refine (told_any (hG9.fr f10a id) ho (StepRow.new w10 _)).mono ?_; rintro e w11 ⟨rfl, hf11⟩; have f11 := f10a.then_ hf11; have f11a := f11.alloc (Obj.cells #[.string (ansS o2).1, .int .i64 (ansS o2).2] 43)) | (go_at_call 8; refine (cert_Check_o HO.out (hsl.fr f11a id id) ((hcr.fr f11a (fun _ _ => id)).mono f11a.size) hxl).mono ?_; rintro e w12 ⟨rfl, hf12⟩; have f12b := f11a.then_ hf12; have r12b := (StepRow.new w11 (ansS o2)).fr hf12 (fun _ _ _ => id)) | (go_at_call 8; refine (cert_Check_o HO.out (hsl.fr f11 id id) ((hcr.fr f11 (fun _ _ => id)).mono f11.size) hxl).mono ?_; rintro e w12 ⟨rfl, hf12⟩; have f12 := f11.then_ hf12; have f12a := f12.alloc (Obj.cells #[.string (ansS o2).1, .int .i64 (ansS o2).2] 43)))
    all_goals go_wp2
    all_goals go_ret
    all_goals exact ⟨rfl, hf9.then_ f13⟩
  · have h200' : (200 : Int) < (xs.length : Int) := by omega
    go_wp2
    go_ret
    exact ⟨rfl, hf2'⟩
end Go.Proofs.YtjnmfaaegbkmhaaDoor
