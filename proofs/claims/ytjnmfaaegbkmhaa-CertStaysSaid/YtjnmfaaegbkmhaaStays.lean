/- cohortlaw05.CertStays: the walk. -/
import Derived.Test.YtjnmfaaegbkmhaaHead05
import Derived.Test.YtjnmfaaegbkmhaaPlain05
import Derived.Deep.RegionHeld3
namespace Go.Proofs.Ytjnmfaaegbkmhaa
open Go Go.RowKit
set_option maxRecDepth 100000 in
set_option maxHeartbeats 1000000 in
theorem certStays_walk {w : World} {A : Option Addr} {l : List (Int × Int × Int)} {cap : Nat} (hl : SealRow w A l) (hll : l.length ≤ 9223372036854775807)
    {A2 : Option Addr} {l2 : List (Int × Int × Int)} {capb : Nat} (hl2 : SealRow w A2 l2) (hll2 : l2.length ≤ 9223372036854775807)
    {B : Option Addr} {xs : List Int} {cap2 : Nat} (hr : IntRow w w.heap.size B xs) (hxl : xs.length ≤ 9223372036854775807) (need G D : Int) :
    Calls Try.prog 4 #[.slice A l.length cap, .slice A2 l2.length capb, .agg #[.int .i64 G, .int .i64 D, .slice B xs.length cap2], .int .i64 need] w (Fine w true) := by
  go_enter Try.func4, Try.ntmps4
  go_wp2_with fail
  have hb0 := Blk.new w 25 #[.int .i64 G, .int .i64 D, .slice B xs.length cap2]
  have hf0 : Fr (fun _ => False) w (w.alloc (Obj.cells #[.int .i64 G, .int .i64 D, .slice B xs.length cap2] 25)) := (Fr.refl _ _).alloc _
  refine (law05_head _).mono ?_
  rintro e w1 ⟨rfl, hf1⟩
  have hb1 := hb0.fr hf1 id
  have hf1' := hf0.then_ hf1
  clear hb0 hf0 hf1
  go_wp2_with fail
  refine (law05_signed (hl.fr hf1' (fun _ _ => id)) hll).mono ?_
  rintro e w2 ⟨g, m, gr, v, rfl, hg, hm, _, hs2, _, hf2⟩
  have hb2 := hb1.fr hf2 id
  have hmw : w.heap.size ≤ m := Nat.le_trans hf1'.size hm
  have hf2' := hf1'.then_ hf2
  have c0 := hb2.cell 0
  have c1 := hb2.cell 1
  have c2 := hb2.cell 2
  clear hb1 hf1' hf2 hl hg hm
  generalize signTo l 200 = L at hs2
  by_cases h200 : xs.length ≤ 200
  · have h200' : ¬ (200 : Int) < (xs.length : Int) := by omega
    go_wp2_with fail
    clear h200' c0 c1 c2
    refine (cert_Check hs2 ((hr.fr hf2' (fun _ _ => id)).mono hf2'.size) hxl G D need).mono ?_
    rintro e w3 ⟨rfl, hf3⟩
    have hs3 := hs2.fr hf3 id id
    have hb3 := hb2.fr hf3 id
    have hf3' := hf2'.then_ hf3
    clear hf3 hf2' hb2 hs2
    rcases hE : checkE G D L xs need with _ | p
    · simp only [errO]
      have HE := Lib.hid hE
      have hn1 : 1 ≤ need := (checkE_none.1 hE).2.2.1
      have hn2 : need ≤ (xs.length : Int) := (checkE_none.1 hE).2.2.2
      clear hE
      go_wp2_with fail
      go_loopw [12] (fun i wr => ∃ (k : Nat) (L' : List (Int × Int)), k ≤ l2.length ∧ k ≤ 200 ∧ i = .int .i64 k ∧ SealsAt wr g m L' ∧ (∀ p ∈ L, p ∈ L') ∧ Blk wr w.heap.size 25 #[.int .i64 G, .int .i64 D, .slice B xs.length cap2] ∧ Fr (fun _ => False) w wr) (fun i _ => 200 - (intOf i).toNat)
      case atStart => exact ⟨0, L, by omega, by omega, rfl, hs3, fun _ h => h, hb3, hf3'⟩
      case round =>
        obtain ⟨k, L', hk, hk2, rfl, hsk, hsub, hbk, hfk⟩ := hrel
        have HS := Lib.hid hsub
        clear hs3 hb3 hf3' hsub
        by_cases hlt : k < l2.length ∧ k < 200
        · obtain ⟨hlt, hlt2⟩ := hlt
          obtain ⟨s, hs⟩ : ∃ s, l2[k]? = some s := ⟨l2[k], List.getElem?_eq_getElem hlt⟩
          obtain ⟨b, o, rfl, hb, c0, c1, c2⟩ := hl2 k s hs
          have d0 := hfk.cell_some c0 id
          have d1 := hfk.cell_some c1 id
          have d2 := hfk.cell_some c2 id
          clear hl2 c0 c1 c2 hs
          go_wp2_with fail
          go_region_held3 (fun w' => w'.cell? ⟨b, o + k * 3, none⟩ = some (.int .i64 s.1) ∧ w'.cell? ⟨b, o + k * 3 + 1, none⟩ = some (.int .i64 s.2.1) ∧ w'.cell? ⟨b, o + k * 3 + 2, none⟩ = some (.int .i64 s.2.2)) (first | exact ⟨d0, d1, d2⟩ | exact ⟨hf9.cell_some d0 (by simp; omega), hf9.cell_some d1 (by simp; omega), hf9.cell_some d2 (by simp; omega)⟩) (first | (go_at_call 14; refine (ref04_Member s.1 s.2.1 _).mono ?_; rintro e w' ⟨rfl, rfl⟩) | (go_at_call 13; refine (seals_Sign hsk.drew _ s.2.2 (memberOf_le _ _)).mono ?_; rintro e w9 ⟨rfl, hs9, hf9⟩))
          have hb9 : Blk w9 w.heap.size 25 #[.int .i64 G, .int .i64 D, .slice B xs.length cap2] := (hbk.drew).fr hf9 (fun e => by obtain ⟨es, cl, e1, _⟩ := hsk.map; exact hbk.ne_map e1 e)
          have hfr9 : Fr (fun _ => False) w w9 := (hfk.drew).trans hf9 (fun x hx e => by omega)
          have hsub9 : Hid (∀ p ∈ L, p ∈ signL (memberOf s.1 s.2.1) s.2.2 L') := fun p hp => signL_sub (HS.out p hp)
          clear d0 d1 d2 hsk hbk hfk hf9 HS
          go_wp2
          go_roundw
          case rel => exact ⟨k + 1, _, by omega, by omega, by go_num, hs9, hsub9.out, hb9, hfr9⟩
          case measure => simp [intOf]; omega
        · have HN : Hid (¬ (k < l2.length ∧ k < 200)) := hlt
          have c0 := hbk.cell 0
          have c1 := hbk.cell 1
          have c2 := hbk.cell 2
          by_cases hlt1 : k < l2.length
          · have h2 : ¬ k < 200 := fun h3 => hlt ⟨hlt1, h3⟩
            clear hlt
            go_wp2_with fail
            refine (cert_Check hsk ((hr.fr hfk (fun _ _ => id)).mono hfk.size) hxl G D need).mono ?_
            rintro e w4 ⟨rfl, hf4⟩
            rw [check_mono HS.out HE.out hn1 hn2]
            simp only [errO]
            have hs4 := hsk.fr hf4 id id
            have hb4 := hbk.fr hf4 id
            have hf4' := hfk.then_ hf4
            have d0 := hb4.cell 0
            have d1 := hb4.cell 1
            have d2 := hb4.cell 2
            clear hf4 hsk hbk hfk c0 c1 c2
            by_cases hn : need < 2
            · go_wp2_with fail
              refine (cert_Check hs4 ((hr.fr hf4' (fun _ _ => id)).mono hf4'.size) hxl G D xs.length).mono ?_
              rintro e w6 ⟨rfl, hf6⟩
              rw [check_mono HS.out HE.out (by omega) (Int.le_refl _)]
              simp only [errO]
              have hs6 := hs4.fr hf6 id id
              have hb6 := hb4.fr hf6 id
              have hf6' := hf4'.then_ hf6
              have e0 := hb6.cell 0
              have e1 := hb6.cell 1
              have e2 := hb6.cell 2
              clear hf6 hs4 hb4 hf4' d0 d1 d2
              go_wp2_with fail
              refine (cert_Check hs6 ((hr.fr hf6' (fun _ _ => id)).mono hf6'.size) hxl G D _).mono ?_
              rintro e w7 ⟨rfl, hf7⟩
              obtain ⟨p, hp⟩ := check_over (G := G) (D := D) (L := L') (xs := xs) (need := (xs.length : Int) + 1) (by omega)
              obtain ⟨t, v, hv⟩ := errO_some p
              rw [hp, hv]
              have hf7' := hf6'.then_ hf7
              clear hp hv hf7 hf6' hs6 hb6
              go_wp2
              go_ret
              exact ⟨rfl, hf7'⟩
            · go_wp2_with fail
              refine (cert_Check hs4 ((hr.fr hf4' (fun _ _ => id)).mono hf4'.size) hxl G D (need - 1)).mono ?_
              rintro e w5 ⟨rfl, hf5⟩
              rw [check_mono HS.out HE.out (by omega) (by omega)]
              simp only [errO]
              have hs5 := hs4.fr hf5 id id
              have hb5 := hb4.fr hf5 id
              have hf5' := hf4'.then_ hf5
              have e0 := hb5.cell 0
              have e1 := hb5.cell 1
              have e2 := hb5.cell 2
              clear hf5 hs4 hb4 hf4' d0 d1 d2
              go_wp2_with fail
              refine (cert_Check hs5 ((hr.fr hf5' (fun _ _ => id)).mono hf5'.size) hxl G D xs.length).mono ?_
              rintro e w6 ⟨rfl, hf6⟩
              rw [check_mono HS.out HE.out (by omega) (Int.le_refl _)]
              simp only [errO]
              have hs6 := hs5.fr hf6 id id
              have hb6 := hb5.fr hf6 id
              have hf6' := hf5'.then_ hf6
              have d0 := hb6.cell 0
              have d1 := hb6.cell 1
              have d2 := hb6.cell 2
              clear hf6 hs5 hb5 hf5' e0 e1 e2
              go_wp2_with fail
              refine (cert_Check hs6 ((hr.fr hf6' (fun _ _ => id)).mono hf6'.size) hxl G D _).mono ?_
              rintro e w7 ⟨rfl, hf7⟩
              obtain ⟨p, hp⟩ := check_over (G := G) (D := D) (L := L') (xs := xs) (need := (xs.length : Int) + 1) (by omega)
              obtain ⟨t, v, hv⟩ := errO_some p
              rw [hp, hv]
              have hf7' := hf6'.then_ hf7
              clear hp hv hf7 hf6' hs6 hb6
              go_wp2
              go_ret
              exact ⟨rfl, hf7'⟩
          · clear hlt
            go_wp2_with fail
            refine (cert_Check hsk ((hr.fr hfk (fun _ _ => id)).mono hfk.size) hxl G D need).mono ?_
            rintro e w4 ⟨rfl, hf4⟩
            rw [check_mono HS.out HE.out hn1 hn2]
            simp only [errO]
            have hs4 := hsk.fr hf4 id id
            have hb4 := hbk.fr hf4 id
            have hf4' := hfk.then_ hf4
            have d0 := hb4.cell 0
            have d1 := hb4.cell 1
            have d2 := hb4.cell 2
            clear hf4 hsk hbk hfk c0 c1 c2
            by_cases hn : need < 2
            · go_wp2_with fail
              refine (cert_Check hs4 ((hr.fr hf4' (fun _ _ => id)).mono hf4'.size) hxl G D xs.length).mono ?_
              rintro e w6 ⟨rfl, hf6⟩
              rw [check_mono HS.out HE.out (by omega) (Int.le_refl _)]
              simp only [errO]
              have hs6 := hs4.fr hf6 id id
              have hb6 := hb4.fr hf6 id
              have hf6' := hf4'.then_ hf6
              have e0 := hb6.cell 0
              have e1 := hb6.cell 1
              have e2 := hb6.cell 2
              clear hf6 hs4 hb4 hf4' d0 d1 d2
              go_wp2_with fail
              refine (cert_Check hs6 ((hr.fr hf6' (fun _ _ => id)).mono hf6'.size) hxl G D _).mono ?_
              rintro e w7 ⟨rfl, hf7⟩
              obtain ⟨p, hp⟩ := check_over (G := G) (D := D) (L := L') (xs := xs) (need := (xs.length : Int) + 1) (by omega)
              obtain ⟨t, v, hv⟩ := errO_some p
              rw [hp, hv]
              have hf7' := hf6'.then_ hf7
              clear hp hv hf7 hf6' hs6 hb6
              go_wp2
              go_ret
              exact ⟨rfl, hf7'⟩
            · go_wp2_with fail
              refine (cert_Check hs4 ((hr.fr hf4' (fun _ _ => id)).mono hf4'.size) hxl G D (need - 1)).mono ?_
              rintro e w5 ⟨rfl, hf5⟩
              rw [check_mono HS.out HE.out (by omega) (by omega)]
              simp only [errO]
              have hs5 := hs4.fr hf5 id id
              have hb5 := hb4.fr hf5 id
              have hf5' := hf4'.then_ hf5
              have e0 := hb5.cell 0
              have e1 := hb5.cell 1
              have e2 := hb5.cell 2
              clear hf5 hs4 hb4 hf4' d0 d1 d2
              go_wp2_with fail
              refine (cert_Check hs5 ((hr.fr hf5' (fun _ _ => id)).mono hf5'.size) hxl G D xs.length).mono ?_
              rintro e w6 ⟨rfl, hf6⟩
              rw [check_mono HS.out HE.out (by omega) (Int.le_refl _)]
              simp only [errO]
              have hs6 := hs5.fr hf6 id id
              have hb6 := hb5.fr hf6 id
              have hf6' := hf5'.then_ hf6
              have d0 := hb6.cell 0
              have d1 := hb6.cell 1
              have d2 := hb6.cell 2
              clear hf6 hs5 hb5 hf5' e0 e1 e2
              go_wp2_with fail
              refine (cert_Check hs6 ((hr.fr hf6' (fun _ _ => id)).mono hf6'.size) hxl G D _).mono ?_
              rintro e w7 ⟨rfl, hf7⟩
              obtain ⟨p, hp⟩ := check_over (G := G) (D := D) (L := L') (xs := xs) (need := (xs.length : Int) + 1) (by omega)
              obtain ⟨t, v, hv⟩ := errO_some p
              rw [hp, hv]
              have hf7' := hf6'.then_ hf7
              clear hp hv hf7 hf6' hs6 hb6
              go_wp2
              go_ret
              exact ⟨rfl, hf7'⟩
    · obtain ⟨t, v, hv⟩ := errO_some p
      rw [hv]
      clear hE hv
      go_wp2
      go_ret
      exact ⟨rfl, hf3'⟩
  · have h200' : (200 : Int) < (xs.length : Int) := by omega
    go_wp2
    go_ret
    exact ⟨rfl, hf2'⟩
end Go.Proofs.Ytjnmfaaegbkmhaa
