/- cohortlaw05.CertRight: the walk. -/
import Derived.Test.YtjnmfaaegbkmhaaHead05
import Derived.Test.YtjnmfaaegbkmhaaPlain05
import Derived.Deep.RegionHeld3
namespace Go.Proofs.Ytjnmfaaegbkmhaa
open Go Go.RowKit
set_option maxRecDepth 100000 in
set_option maxHeartbeats 1000000 in
theorem certRight_walk {w : World} {A : Option Addr} {l : List (Int × Int × Int)} {cap : Nat} (hl : SealRow w A l) (hll : l.length ≤ 9223372036854775807)
    {B : Option Addr} {xs : List Int} {cap2 : Nat} (hr : IntRow w w.heap.size B xs) (hxl : xs.length ≤ 9223372036854775807) (gr0 dg need G D : Int) :
    Calls Try.prog 3 #[.slice A l.length cap, .int .i64 gr0, .int .i64 dg, .int .i64 need, .agg #[.int .i64 G, .int .i64 D, .slice B xs.length cap2]] w (Fine w true) := by
  go_enter Try.func3, Try.ntmps3
  go_wp2_with fail
  have hb0 := Blk.new w 25 #[.int .i64 G, .int .i64 D, .slice B xs.length cap2]
  have hf0 : Fr (fun _ => False) w (w.alloc (Obj.cells #[.int .i64 G, .int .i64 D, .slice B xs.length cap2] 25)) := (Fr.refl _ _).alloc _
  refine (law05_head _).mono ?_
  rintro e w1 ⟨rfl, hf1⟩
  have hb1 := hb0.fr hf1 id
  have hf1' := hf0.then_ hf1
  clear hb0 hf0 hf1
  go_wp2_with fail
  refine (law05_signed (hl.fr hf1' (fun _ _ => id)) hll).mono ?_
  rintro e w2 ⟨g, m, gr, v, rfl, hg, hm, _, hs2, _, hf2⟩
  have hb2 := hb1.fr hf2 id
  have hf2' := hf1'.then_ hf2
  have c2 := hb2.cell 2
  clear hb1 hf1' hf2 hl hg hm
  generalize signTo l 200 = L at hs2
  by_cases h200 : xs.length ≤ 200
  · have h200' : ¬ (200 : Int) < (xs.length : Int) := by omega
    go_wp2_with fail
    clear h200' c2
    refine (cert_Make hs2 gr0 dg need).mono ?_
    rintro e w3 ⟨hf3, h3⟩
    have hs3 := hs2.fr hf3 id id
    have hb3 := hb2.fr hf3 id
    have hf3' := hf2'.then_ hf3
    clear hf3 hf2' hb2 hs2
    rcases h3 with ⟨hfew, rfl⟩ | ⟨hok, A2, cap3, rfl, hr3⟩
    · simp only [errV]
      have hf4 : Fr (fun _ => False) w3 (w3.alloc (Obj.cells #[.int .i64 0, .int .i64 0, .slice none 0 0] 25)) := (Fr.refl _ _).alloc _
      have hb4 := Blk.new w3 25 #[.int .i64 0, .int .i64 0, .slice none 0 0]
      go_wp2_with fail
      refine (seals_Who (hs3.fr hf4 id id) gr0 dg).mono ?_
      rintro e w5 ⟨v5, rfl, hown5, hf5⟩
      obtain ⟨A5, cap5, rfl, _, _⟩ := own_form hown5
      clear hown5
      have hf6 := hf4.then_ hf5
      have hs5 := hs3.fr hf6 id id
      have hb5 := hb3.fr hf6 id
      have hf5' := hf3'.then_ hf6
      have c5 := (hb4.fr hf5 id).cell 2
      have d0 := hb5.cell 0
      have d1 := hb5.cell 1
      have d2 := hb5.cell 2
      clear hf4 hf5 hf6 hs3 hb3 hf3' hb4
      rw [whoInts_length] at hfew
      by_cases h1 : need < 1
      · have h2 : need ≤ ((whoTo gr0 dg L 10).length : Int) := by omega
        clear hfew
        go_wp2_with fail
        clear c5
        refine (cert_Check hs5 ((hr.fr hf5' (fun _ _ => id)).mono hf5'.size) hxl G D need).mono ?_
        rintro e w6 ⟨rfl, hf6⟩
        have hs6 := hs5.fr hf6 id id
        have hb6 := hb5.fr hf6 id
        have hf7 := hf5'.then_ hf6
        have hr7 := hr.fr hf7 (fun _ _ => id)
        have e0 := hb6.cell 0
        have e1 := hb6.cell 1
        have e2 := hb6.cell 2
        clear d0 d1 d2 hs5 hb5 hf5' hf6 hr
        rcases hE : checkE G D L xs need with _ | p
        · have := (checkE_none.1 hE).2.2.1
          omega
        · obtain ⟨t, v, hv⟩ := errO_some p
          rw [hv]
          clear hE hv
          go_wp2
          go_ret
          exact ⟨rfl, hf7⟩
      · have h2 : ((whoTo gr0 dg L 10).length : Int) < need := by omega
        clear hfew
        go_wp2_with fail
        clear c5
        refine (cert_Check hs5 ((hr.fr hf5' (fun _ _ => id)).mono hf5'.size) hxl G D need).mono ?_
        rintro e w6 ⟨rfl, hf6⟩
        have hs6 := hs5.fr hf6 id id
        have hb6 := hb5.fr hf6 id
        have hf7 := hf5'.then_ hf6
        have hr7 := hr.fr hf7 (fun _ _ => id)
        have e0 := hb6.cell 0
        have e1 := hb6.cell 1
        have e2 := hb6.cell 2
        clear d0 d1 d2 hs5 hb5 hf5' hf6 hr
        rcases hE : checkE G D L xs need with _ | p
        · simp only [errO]
          have HE := Lib.hid hE
          clear hE
          go_wp2_with fail
          clear e0 e1 e2
          go_loopw [16] (fun i wr => ∃ k : Nat, k ≤ xs.length ∧ i = .int .i64 k ∧ Fr (fun _ => False) w6 wr) (fun i _ => xs.length - (intOf i).toNat)
          case atStart => exact ⟨0, by omega, rfl, Fr.refl _ _⟩
          case round =>
            obtain ⟨k, hk, rfl, hfk⟩ := hrel
            have hb8 := hb6.fr hfk id
            have hs8 := hs6.fr hfk id id
            have e0 := hb8.cell 0
            have e1 := hb8.cell 1
            have e2 := hb8.cell 2
            have hfw := hf7.then_ hfk
            by_cases hlt : k < xs.length
            · obtain ⟨x, hx⟩ : ∃ x, xs[k]? = some x := ⟨xs[k], List.getElem?_eq_getElem hlt⟩
              obtain ⟨b, o, rfl, hb, c0⟩ := hr7 k x hx
              have d0 := hfk.cell_some c0 id
              have hm := (check_at HE.out hx).2
              have HX := Lib.hid hx
              clear hx c0
              go_wp2_with fail
              go_region_held3 (fun w' => w'.cell? ⟨w.heap.size, 0, none⟩ = some (.int .i64 G) ∧ w'.cell? ⟨w.heap.size, 1, none⟩ = some (.int .i64 D) ∧ w'.cell? ⟨w.heap.size, 2, none⟩ = some (.slice (some ⟨b, o, none⟩) xs.length cap2) ∧ w'.cell? ⟨b, o + k, none⟩ = some (.int .i64 x)) (first | exact ⟨e0, e1, e2, d0⟩ | exact ⟨hf9.cell_some e0 id, hf9.cell_some e1 id, hf9.cell_some e2 id, hf9.cell_some d0 id⟩) (first | (go_at_call 12; refine (seals_Member G x _).mono ?_; rintro e w' ⟨rfl, rfl⟩) | (go_at_call 11; refine (seals_Signed (hs8.drew) _ D).mono ?_; rintro e w9 ⟨rfl, hf9⟩))
              have hf10 : Fr (fun _ => False) w6 w9 := (hfk.drew).then_ hf9
              have e2' := hf9.cell_some e2 id
              have d0' := hf9.cell_some d0 id
              clear e0 e1 e2 d0 hb8 hs8 hfw
              go_wp2_with fail
              go_loopw [17] (fun i wi => ∃ j : Nat, j ≤ k ∧ i = .int .i64 j ∧ Fr (fun _ => False) w9 wi) (fun i _ => k - (intOf i).toNat)
              case atStart => exact ⟨0, by omega, rfl, Fr.refl _ _⟩
              case round =>
                obtain ⟨j, hj, rfl, hfj⟩ := hrel
                by_cases hlj : j < k
                · obtain ⟨y, hy⟩ : ∃ y, xs[j]? = some y := ⟨xs[j], List.getElem?_eq_getElem (by omega)⟩
                  obtain ⟨b', o', hbo, hb', c1⟩ := hr7 j y hy
                  cases hbo
                  have d1 := (hf10.then_ hfj).cell_some c1 id
                  have d2 := hfj.cell_some d0' id
                  have d3 := hfj.cell_some e2' id
                  have hyx : (y == x) = false := beq_eq_false_iff_ne.2 (by have := check_lt HE.out hy HX.out hlj; omega)
                  have hjl : j < xs.length := by omega
                  clear c1 hy e2' d0'
                  go_wp2_with fail
                  go_quiet (fail)
                  go_wp2
                  go_roundw
                  case rel => exact ⟨j + 1, by omega, by go_num, hfj.drewN _⟩
                  case measure => simp [intOf]; omega
                · obtain rfl : j = k := by omega
                  go_wp2
                  go_roundw
                  case rel => exact ⟨j + 1, by omega, by go_num, hf10.then_ hfj⟩
                  case measure => simp [intOf]; omega
            · obtain rfl : k = xs.length := by omega
              obtain ⟨_, _, n1, n2⟩ := checkE_none.1 HE.out
              go_wp2
              go_ret
              exact ⟨rfl, hfw⟩
        · obtain ⟨t, v, hv⟩ := errO_some p
          rw [hv]
          clear hE hv
          go_wp2
          go_ret
          exact ⟨rfl, hf7⟩
    · obtain ⟨n, rfl⟩ : ∃ n : Nat, need = n := ⟨need.toNat, by omega⟩
      have hright := make_right hok
      rw [Int.toNat_natCast] at hr3 hright
      have hlen : ((whoInts gr0 dg L).take n).length = n := by rw [List.length_take]; omega
      rw [Int.toNat_natCast, hlen]
      have HN := Lib.hid hlen
      have HR := Lib.hid hright
      have hn1 : ((n : Int) != (n : Int)) = false := by simp
      clear hlen hright hok
      have hf4 : Fr (fun _ => False) w3 (w3.alloc (Obj.cells #[.int .i64 gr0, .int .i64 dg, .slice A2 n cap3] 25)) := (Fr.refl _ _).alloc _
      have hb4 := Blk.new w3 25 #[.int .i64 gr0, .int .i64 dg, .slice A2 n cap3]
      go_wp2_with fail
      refine (cert_Check_n (hs3.fr hf4 id id) ((hr3.fr hf4 (fun _ _ => id)).mono (by simp)) HN.out (by have h1 := HN.out; have h2 := whoTo_le gr0 dg L 10; rw [List.length_take, whoInts_length] at h1; omega) gr0 dg n).mono ?_
      rintro e w5 ⟨rfl, hf5⟩
      rw [HR.out]
      have hf6 := hf4.then_ hf5
      have hs5 := hs3.fr hf6 id id
      have hb5 := hb3.fr hf6 id
      have hf5' := hf3'.then_ hf6
      have hb6 := hb4.fr hf5 id
      have c5 := hb6.cell 2
      have c4 := hb6.cell 1
      have c3 := hb6.cell 0
      have d0 := hb5.cell 0
      have d1 := hb5.cell 1
      have d2 := hb5.cell 2
      simp only [errO]
      clear hf4 hf5 hf6 hs3 hb3 hf3' hb4 hb6 HN HR hr3
      go_wp2_with fail
      clear c3 c4 hn1
      clear c5
      refine (cert_Check hs5 ((hr.fr hf5' (fun _ _ => id)).mono hf5'.size) hxl G D (n : Int)).mono ?_
      rintro e w6 ⟨rfl, hf6⟩
      have hs6 := hs5.fr hf6 id id
      have hb6 := hb5.fr hf6 id
      have hf7 := hf5'.then_ hf6
      have hr7 := hr.fr hf7 (fun _ _ => id)
      have e0 := hb6.cell 0
      have e1 := hb6.cell 1
      have e2 := hb6.cell 2
      clear d0 d1 d2 hs5 hb5 hf5' hf6 hr
      rcases hE : checkE G D L xs (n : Int) with _ | p
      · simp only [errO]
        have HE := Lib.hid hE
        clear hE
        go_wp2_with fail
        clear e0 e1 e2
        go_loopw [16] (fun i wr => ∃ k : Nat, k ≤ xs.length ∧ i = .int .i64 k ∧ Fr (fun _ => False) w6 wr) (fun i _ => xs.length - (intOf i).toNat)
        case atStart => exact ⟨0, by omega, rfl, Fr.refl _ _⟩
        case round =>
          obtain ⟨k, hk, rfl, hfk⟩ := hrel
          have hb8 := hb6.fr hfk id
          have hs8 := hs6.fr hfk id id
          have e0 := hb8.cell 0
          have e1 := hb8.cell 1
          have e2 := hb8.cell 2
          have hfw := hf7.then_ hfk
          by_cases hlt : k < xs.length
          · obtain ⟨x, hx⟩ : ∃ x, xs[k]? = some x := ⟨xs[k], List.getElem?_eq_getElem hlt⟩
            obtain ⟨b, o, rfl, hb, c0⟩ := hr7 k x hx
            have d0 := hfk.cell_some c0 id
            have hm := (check_at HE.out hx).2
            have HX := Lib.hid hx
            clear hx c0
            go_wp2_with fail
            go_region_held3 (fun w' => w'.cell? ⟨w.heap.size, 0, none⟩ = some (.int .i64 G) ∧ w'.cell? ⟨w.heap.size, 1, none⟩ = some (.int .i64 D) ∧ w'.cell? ⟨w.heap.size, 2, none⟩ = some (.slice (some ⟨b, o, none⟩) xs.length cap2) ∧ w'.cell? ⟨b, o + k, none⟩ = some (.int .i64 x)) (first | exact ⟨e0, e1, e2, d0⟩ | exact ⟨hf9.cell_some e0 id, hf9.cell_some e1 id, hf9.cell_some e2 id, hf9.cell_some d0 id⟩) (first | (go_at_call 12; refine (seals_Member G x _).mono ?_; rintro e w' ⟨rfl, rfl⟩) | (go_at_call 11; refine (seals_Signed (hs8.drew) _ D).mono ?_; rintro e w9 ⟨rfl, hf9⟩))
            have hf10 : Fr (fun _ => False) w6 w9 := (hfk.drew).then_ hf9
            have e2' := hf9.cell_some e2 id
            have d0' := hf9.cell_some d0 id
            clear e0 e1 e2 d0 hb8 hs8 hfw
            go_wp2_with fail
            go_loopw [17] (fun i wi => ∃ j : Nat, j ≤ k ∧ i = .int .i64 j ∧ Fr (fun _ => False) w9 wi) (fun i _ => k - (intOf i).toNat)
            case atStart => exact ⟨0, by omega, rfl, Fr.refl _ _⟩
            case round =>
              obtain ⟨j, hj, rfl, hfj⟩ := hrel
              by_cases hlj : j < k
              · obtain ⟨y, hy⟩ : ∃ y, xs[j]? = some y := ⟨xs[j], List.getElem?_eq_getElem (by omega)⟩
                obtain ⟨b', o', hbo, hb', c1⟩ := hr7 j y hy
                cases hbo
                have d1 := (hf10.then_ hfj).cell_some c1 id
                have d2 := hfj.cell_some d0' id
                have d3 := hfj.cell_some e2' id
                have hyx : (y == x) = false := beq_eq_false_iff_ne.2 (by have := check_lt HE.out hy HX.out hlj; omega)
                have hjl : j < xs.length := by omega
                clear c1 hy e2' d0'
                go_wp2_with fail
                go_quiet (fail)
                go_wp2
                go_roundw
                case rel => exact ⟨j + 1, by omega, by go_num, hfj.drewN _⟩
                case measure => simp [intOf]; omega
              · obtain rfl : j = k := by omega
                go_wp2
                go_roundw
                case rel => exact ⟨j + 1, by omega, by go_num, hf10.then_ hfj⟩
                case measure => simp [intOf]; omega
          · obtain rfl : k = xs.length := by omega
            obtain ⟨_, _, n1, n2⟩ := checkE_none.1 HE.out
            go_wp2
            go_ret
            exact ⟨rfl, hfw⟩
      · obtain ⟨t, v, hv⟩ := errO_some p
        rw [hv]
        clear hE hv
        go_wp2
        go_ret
        exact ⟨rfl, hf7⟩
  · have h200' : (200 : Int) < (xs.length : Int) := by omega
    go_wp2
    go_ret
    exact ⟨rfl, hf2'⟩
end Go.Proofs.Ytjnmfaaegbkmhaa
