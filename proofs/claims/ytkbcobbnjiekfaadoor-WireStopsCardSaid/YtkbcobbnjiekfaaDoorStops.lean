/- cohortlaw02.WireStops: the walk. -/
import Derived.Test.YtkbcobbnjiekfaaDoorHead02
import Derived.Test.YtkbcobbnjiekfaaDoorGreat
import Derived.Test.YtkbcobbnjiekfaaDoorRdSum
import Derived.Test.YtkbcobbnjiekfaaDoorBig
namespace Go.Proofs.YtkbcobbnjiekfaaDoor
open Go Go.RowKit
theorem endE_none_code {bs : List Int} {p : Nat} : codeO (endE bs p none) = 0 ∨ codeO (endE bs p none) = 22 := by
  unfold endE
  dsimp only
  split
  · exact .inr rfl
  · exact .inl rfl
theorem textO_end (tb : Nat → Int) {bs : List Int} {p : Nat} {er : List (ByteArray × Int) × Int} : textO tb (endE bs p (some er)) = textP tb er := rfl
/-- What the law holds in 'text': nothing, or the text of the error that the reader has. -/
def TxtOk (tb : Nat → Int) (txt : ByteArray) (err : ErrD) : Prop := txt = ⟨#[]⟩ ∨ ∃ er, err = some er ∧ txt = textP tb er
theorem txtOk_keep {tb : Nat → Int} {txt : ByteArray} {e1 e2 : ErrD} (h : TxtOk tb txt e1) (he : ∀ er, e1 = some er → e2 = some er) : TxtOk tb txt e2 := by
  rcases h with h | ⟨er, h1, h2⟩
  · exact .inl h
  · exact .inr ⟨er, he er h1, h2⟩
theorem txtOk_new {tb : Nat → Int} {bs : List Int} {p : Nat} {err : ErrD} (h0 : codeO (endE bs p err) ≠ 0) (h22 : codeO (endE bs p err) ≠ 22) : TxtOk tb (textO tb (endE bs p err)) err := by
  cases err with
  | none => exact absurd (endE_none_code.resolve_left h0) h22
  | some er => exact .inr ⟨er, rfl, rfl⟩
set_option maxRecDepth 100000 in
set_option maxHeartbeats 2000000 in
theorem wireStops_walk {w : World} (hG0 : Laid w) {tb : Nat → Int} (hT0 : Tab w tb) {B : Option Addr} {bs : List Int} {capB : Nat} (hrb : ByteRow w (fun k => k < w.heap.size) B bs) (hbl : bs.length ≤ 140737488355328) (h8 : Bytes8 bs)
    {A : Option Addr} {cap : Nat} {ops : List OpD} (hr : OpRow w (fun k => k < w.heap.size) A ops) (hll : ops.length ≤ 9223372036854775807) (hml : ∀ x ∈ ops, x.s.length ≤ 9223372036854775807 ∧ x.l.length ≤ 9223372036854775807 ∧ x.m.length ≤ 9223372036854775807) :
    Calls Tryd.prog 5 #[.slice B bs.length capB, .slice A ops.length cap] w (Fine w true) := by
  have hGb : 0 < w.heap.size := World.block_lt_of_cell? w _ hG0
  have H8 := Lib.hid h8
  have HT := Lib.hid hT0
  clear h8 hT0
  go_enter Tryd.func5, Tryd.ntmps5
  go_wp2_with fail
  refine (law02_head hG0).mono ?_
  rintro e w1 ⟨rfl, hf1⟩
  go_wp2_with fail
  refine (wire_NewB (hrb.fr hf1 (fun _ _ => id)) hbl).mono ?_
  rintro e w2 ⟨g, A5, rfl, hR2, hg2, hA2, hf12⟩
  have hf2 := hf1.then_ hf12
  have hgw : w.heap.size ≤ g := by have := hf1.size; omega
  clear hf1 hf12 hg2 hA2
  go_wp2_with fail
  refine (law02_Great (hr.fr hf2 (fun _ _ => id)) hll hml).mono ?_
  rintro e w3 ⟨⟨b, rfl, _⟩, hf23⟩
  have hf3 := hf2.then_ hf23
  have hR3 := hR2.fr hf23 id (fun _ _ _ => id)
  clear hr hml hrb hf2 hf23 hR2
  cases b with
  | true =>
    go_wp2
    go_ret
    exact ⟨rfl, hf3⟩
  | false =>
    by_cases hb4 : bs.length ≤ 400000
    · have hb4' : ¬ (400000 : Int) < (bs.length : Int) := by omega
      have HB := Lib.hid hb4
      have hlB : bs.length ≤ 1099511627776 := by omega
      have HLB := Lib.hid hlB
      clear hb4 hbl hlB
      go_wp2_with fail
      go_loopw [7, 8] (fun t i wr => ∃ (k : Nat) (txt : ByteArray) (err : ErrD) (p : Nat), k ≤ ops.length ∧ i = .int .i64 k ∧ t = .string txt ∧ ReaderAt wr g A5 bs p err ∧ OkE bs.length err ∧ TxtOk tb txt err ∧ Fr (fun _ => False) w wr) (fun _ i _ => ops.length - (intOf i).toNat)
      case atStart => exact ⟨0, _, none, 0, by omega, rfl, rfl, hR3, OkE.none _, .inl rfl, hf3⟩
      case round =>
        obtain ⟨k, txt, err, p, hk, rfl, rfl, hR, hE, hX, hf⟩ := hrel
        clear hb4'
        by_cases hlt : k < ops.length
        · have HX := Lib.hid hX
          clear hX hR3 hf3
          go_wp2_with fail
          refine (reader_Num hR HLB.out H8.out).mono ?_
          intro e wa ha
          obtain ⟨x1, err1, p1, rfl, hR1, hE1, hfa, ha1, _⟩ := rd_num ha (by decide) hR.le (numC_in _ _) hE
          have HA1 := Lib.hid ha1
          have hfw1 := hf.trans hfa (fun j hj e => by omega)
          clear ha ha1 hR hfa
          go_wp2_with fail
          refine (reader_Text hR1 HLB.out H8.out).mono ?_
          intro e wb hb
          obtain ⟨B2, m2, c2, err2, p2, rfl, hR2, hE2, hfb, hb1, _⟩ := rd_any hb isText_slice (by decide) hR1.le (textC_in _ _) hE1
          have HA2 := Lib.hid hb1
          have hfw2 := hfw1.trans hfb (fun j hj e => by omega)
          clear hb hb1 hR1 hfb
          go_wp2_with fail
          refine (reader_List hR2 HLB.out H8.out).mono ?_
          intro e wc hc
          obtain ⟨B3, m3, c3, err3, p3, rfl, hR3, hE3, hfc, hc1, _⟩ := rd_any hc isList_slice (by decide) hR2.le (listC_in _ _) hE2
          have HA3 := Lib.hid hc1
          have hfw3 := hfw2.trans hfc (fun j hj e => by omega)
          clear hc hc1 hR2 hfc
          go_wp2_with fail
          refine (reader_Nums hR3 HLB.out H8.out).mono ?_
          intro e wd hd
          obtain ⟨B4, m4, c4, err4, p4, rfl, hR4, hE4, hfd, hd1, _⟩ := rd_any hd isNums_slice (by decide) hR3.le (numsC_in _ _) hE3
          have HA4 := Lib.hid hd1
          have hfw4 := hfw3.trans hfd (fun j hj e => by omega)
          clear hd hd1 hR3 hfd
          go_wp2_with fail
          refine (reader_Int hR4 HLB.out 9).mono ?_
          intro e we he
          obtain ⟨x5, err5, p5, rfl, hR5, hE5, hfe, he1, _⟩ := rd_num he (by decide) hR4.le (intC_in _ _ _) hE4
          have HA5 := Lib.hid he1
          have hfw5 := hfw4.trans hfe (fun j hj e => by omega)
          clear he he1 hR4 hfe hfw1 hfw2 hfw3 hfw4 hE hE1 hE2 hE3 hE4
          have hO : OkE2 bs.length (endE bs p5 err5) := endE_ok hE5 hR5.le
          obtain ⟨o, ho⟩ : ∃ o, Hid (endE bs p5 err5 = o) := ⟨_, rfl⟩
          have hEnd := reader_End hR5 HLB.out
          unfold Ended at hEnd
          rw [ho.out] at hO hEnd
          obtain ⟨c, hc⟩ : ∃ c, Hid (codeO o = c) := ⟨_, rfl⟩
          obtain ⟨now, hnow⟩ : ∃ now, Hid (textO tb o = now) := ⟨_, rfl⟩
          go_wp2_with fail
          refine hEnd.mono ?_
          rintro e wf ⟨rfl, hf56⟩
          have hfw6 := hfw5.then_ hf56
          have hR6 := hR5.fr hf56 id (fun _ _ _ => id)
          clear hEnd
          go_wp2_with fail
          refine (fault_TextO (HT.out.fr hfw6) (by have := HB.out; omega) hO).mono ?_
          rintro e wg ⟨rfl, hf67⟩
          rw [hnow.out]
          have hfw7 := hfw6.then_ hf67
          have hR7 := hR6.fr hf67 id (fun _ _ _ => id)
          have hG7 := hG0.fr hfw7 id
          have hE1' := reader_End hR7 HLB.out
          unfold Ended at hE1'
          rw [ho.out] at hE1'
          clear hR5 hR6 hf56 hf67 hfw5 hfw6
          have hkeep : Hid (∀ er, err = some er → err5 = some er ∧ x1 = 0 ∧ m2 = 0 ∧ m3 = 0 ∧ m4 = 0 ∧ x5 = 0) := fun er h => by
            obtain ⟨q1, h1⟩ := HA1.out er h
            obtain ⟨q2, h2⟩ := HA2.out er h1
            obtain ⟨q3, h3⟩ := HA3.out er h2
            obtain ⟨q4, h4⟩ := HA4.out er h3
            obtain ⟨q5, h5⟩ := HA5.out er h4
            exact ⟨h5, q1, q2, q3, q4, q5⟩
          clear HA1 HA2 HA3 HA4 HA5
          have hquiet : txt = ⟨#[]⟩ ∨ (txt.toList == []) = false ∧ now = txt ∧ x1 = 0 ∧ m2 = 0 ∧ m3 = 0 ∧ m4 = 0 ∧ x5 = 0 := by
            rcases HX.out with h | ⟨er, h1, h2⟩
            · exact .inl h
            · by_cases h0 : txt = ⟨#[]⟩
              · exact .inl h0
              · obtain ⟨k1, k2, k3, k4, k5, k6⟩ := hkeep.out er h1
                refine .inr ⟨?_, ?_, k2, k3, k4, k5, k6⟩
                · apply Bool.eq_false_iff.2
                  intro hh
                  apply h0
                  have := eq_of_beq hh
                  exact ByteArray.ext (Array.ext' (by rw [← ByteArray.toList_eq, this]))
                · rw [← hnow.out, ← ho.out, k1]
                  exact h2.symm
          rcases hquiet with rfl | ⟨hq, rfl, rfl, rfl, rfl, rfl, rfl⟩
          · clear hkeep
            go_wp2_with fail
            refine hE1'.mono ?_
            rintro e wh ⟨rfl, hf78⟩
            have hfw8 := hfw7.then_ hf78
            go_wp2_with fail
            refine (fault_CodeO (hG7.fr hf78 id) o).mono ?_
            rintro e wi ⟨rfl, hf89⟩
            rw [hc.out]
            have hfw9 := hfw8.then_ hf89
            have hR9 := hR7.fr (hf78.then_ hf89) id (fun _ _ _ => id)
            have hG9 := hG7.fr (hf78.then_ hf89) id
            have hE2' := reader_End hR9 HLB.out
            unfold Ended at hE2'
            rw [ho.out] at hE2'
            clear hE1' hf78 hf89 hR7 hG7 hfw7 hfw8
            by_cases hc0 : c = 0
            · subst hc0
              go_wp2_with fail
              go_roundw
              case rel => exact ⟨k + 1, _, err5, p5, by omega, by go_num, rfl, hR9, hE5, (.inl rfl), hfw9⟩
              case measure => simp [intOf]; omega
            · have q0 : (c != 0) = true := by simpa using hc0
              go_wp2_with fail
              refine hE2'.mono ?_
              rintro e wj ⟨rfl, hf90⟩
              have hfw10 := hfw9.then_ hf90
              go_wp2_with fail
              refine (fault_CodeO (hG9.fr hf90 id) o).mono ?_
              rintro e wk ⟨rfl, hf01⟩
              rw [hc.out]
              have hfw11 := hfw10.then_ hf01
              have hR11 := hR9.fr (hf90.then_ hf01) id (fun _ _ _ => id)
              clear hE2'
              by_cases h22 : c = 22
              · subst h22
                go_wp2_with fail
                go_roundw
                case rel => exact ⟨k + 1, _, err5, p5, by omega, by go_num, rfl, hR11, hE5, (.inl rfl), hfw11⟩
                case measure => simp [intOf]; omega
              · have q22 : (c != 22) = true := by simpa using h22
                go_wp2_with fail
                go_roundw
                case rel => exact ⟨k + 1, _, err5, p5, by omega, by go_num, rfl, hR11, hE5, (by rw [← hnow.out, ← ho.out]; exact txtOk_new (by rw [ho.out, hc.out]; exact hc0) (by rw [ho.out, hc.out]; exact h22)), hfw11⟩
                case measure => simp [intOf]; omega
          · have HK := hkeep
            go_wp2_with fail
            refine hE1'.mono ?_
            rintro e wh ⟨rfl, hf78⟩
            have hfw8 := hfw7.then_ hf78
            go_wp2_with fail
            refine (fault_CodeO (hG7.fr hf78 id) o).mono ?_
            rintro e wi ⟨rfl, hf89⟩
            rw [hc.out]
            have hfw9 := hfw8.then_ hf89
            have hR9 := hR7.fr (hf78.then_ hf89) id (fun _ _ _ => id)
            have hG9 := hG7.fr (hf78.then_ hf89) id
            have hE2' := reader_End hR9 HLB.out
            unfold Ended at hE2'
            rw [ho.out] at hE2'
            clear hE1' hf78 hf89 hR7 hG7 hfw7 hfw8
            by_cases hc0 : c = 0
            · subst hc0
              go_wp2_with fail
              go_roundw
              case rel => exact ⟨k + 1, _, err5, p5, by omega, by go_num, rfl, hR9, hE5, (txtOk_keep HX.out (fun er h => (HK.out er h).1)), hfw9⟩
              case measure => simp [intOf]; omega
            · have q0 : (c != 0) = true := by simpa using hc0
              go_wp2_with fail
              refine hE2'.mono ?_
              rintro e wj ⟨rfl, hf90⟩
              have hfw10 := hfw9.then_ hf90
              go_wp2_with fail
              refine (fault_CodeO (hG9.fr hf90 id) o).mono ?_
              rintro e wk ⟨rfl, hf01⟩
              rw [hc.out]
              have hfw11 := hfw10.then_ hf01
              have hR11 := hR9.fr (hf90.then_ hf01) id (fun _ _ _ => id)
              clear hE2'
              by_cases h22 : c = 22
              · subst h22
                go_wp2_with fail
                go_roundw
                case rel => exact ⟨k + 1, _, err5, p5, by omega, by go_num, rfl, hR11, hE5, (txtOk_keep HX.out (fun er h => (HK.out er h).1)), hfw11⟩
                case measure => simp [intOf]; omega
              · have q22 : (c != 22) = true := by simpa using h22
                go_wp2_with fail
                go_roundw
                case rel => exact ⟨k + 1, _, err5, p5, by omega, by go_num, rfl, hR11, hE5, (by rw [← hnow.out, ← ho.out]; exact txtOk_new (by rw [ho.out, hc.out]; exact hc0) (by rw [ho.out, hc.out]; exact h22)), hfw11⟩
                case measure => simp [intOf]; omega
        · have hfin := hf
          clear hR3 hf3
          go_wp2
          go_ret
          exact ⟨rfl, hfin⟩
    · have hb4' : (400000 : Int) < (bs.length : Int) := by omega
      clear hb4 hbl
      go_wp2
      go_ret
      exact ⟨rfl, hf3⟩
end Go.Proofs.YtkbcobbnjiekfaaDoor
