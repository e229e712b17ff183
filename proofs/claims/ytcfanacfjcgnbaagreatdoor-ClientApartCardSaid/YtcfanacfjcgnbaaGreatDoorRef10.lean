/- cohortref10: Right, Put. -/
import Derived.Test.YtcfanacfjcgnbaaGreatDoorRef10R
import Derived.Test.YtcfanacfjcgnbaaGreatDoorRefL
namespace Go.Proofs.YtcfanacfjcgnbaaGreatDoor
open Go Go.RowKit
set_option maxRecDepth 100000 in
set_option maxHeartbeats 4000000 in
theorem ref10_Put_ok {w : World} {F : Nat → Prop} {A B : Option Addr} {cr cw : Nat} {c n : Int} {R : List (ByteArray × Int)} {W : List (ByteArray × ByteArray)} (hr : ReadRow w F A R) (hw : WriteRow w F B W) (h : TOk c n R W) :
    Calls Tryz.prog 22 #[.agg #[.int .i64 c, .int .i64 n, .slice A R.length cr, .slice B W.length cw]] w (PutT w c n R W (.int .i64 0)) := by
  have hlR : R.length ≤ 8 := rises_len h.2.2.2.2.2.1
  have hlW : W.length ≤ 8 := rises_len h.2.2.2.2.2.2
  have HKR := Lib.hid (read_sizes h.2.2.2.2.2.1)
  have HKW := Lib.hid (write_sizes h.2.2.2.2.2.2)
  have HBR := Lib.hid (readB_le HKR.out)
  have HBW := Lib.hid (writeB_le HKW.out)
  have HRr := Lib.hid hr
  have HWr := Lib.hid hw
  have hB0 := Blk.new w 25 #[.int .i64 c, .int .i64 n, .slice A R.length cr, .slice B W.length cw]
  have hf0 : Fr (fun _ => False) w (w.alloc (Obj.cells #[.int .i64 c, .int .i64 n, .slice A R.length cr, .slice B W.length cw] 25)) := (Fr.refl _ _).alloc _
  have HC := Lib.hid (ref10_Right_ok (cr := cr) (cw := cw) (hr.fr hf0 (fun _ _ => id)) (hw.fr hf0 (fun _ _ => id)) h)
  clear hr hw h
  go_enter Tryz.func22, Tryz.ntmps22
  go_wp2_with fail
  refine HC.out.mono ?_
  rintro e w1 ⟨rfl, hf01⟩
  have hB1 := hB0.fr hf01 id
  have hf1 := hf0.then_ hf01
  obtain ⟨gB, hgB⟩ : ∃ g, Hid (w.heap.size = g) := ⟨_, rfl⟩
  rw [hgB.out] at hB1
  obtain ⟨g, hg⟩ : ∃ g, Hid (w1.heap.size = g) := ⟨_, rfl⟩
  have hsg : w.heap.size ≤ g := by rw [← hg.out]; exact hf1.size
  obtain ⟨b0, hb0⟩ : ∃ b : List Int, Hid (([] : List Int) = b) := ⟨_, rfl⟩
  have hl0 : b0.length = 0 := by rw [← hb0.out]; rfl
  have hW2 : RefW (w1.alloc (Obj.cells #[.slice none 0 0, .int .i64 0, .int .i64 0] 90)) w1.heap.size w1.heap.size (.slice none 0 0) [] none := ⟨Blk.new _ _ _, Own8.nil _ _⟩
  have hf2 : Fr (fun _ => False) w (w1.alloc (Obj.cells #[.slice none 0 0, .int .i64 0, .int .i64 0] 90)) := hf1.alloc _
  have hB2 := hB1.alloc (Obj.cells #[.slice none 0 0, .int .i64 0, .int .i64 0] 90)
  have hz2 : w1.heap.size ≤ (w1.alloc (Obj.cells #[.slice none 0 0, .int .i64 0, .int .i64 0] 90)).heap.size := by simp
  have hc2 := hB2.cell 0
  rw [← hgB.out] at hc2
  clear hB0 hf0 HC hf01 hB1 hf1
  rw [hb0.out] at hW2
  go_wp2_with fail
  rw [hg.out] at hW2 hz2 ⊢
  rw [hgB.out] at hc2 ⊢
  generalize w1.alloc (Obj.cells #[.slice none 0 0, .int .i64 0, .int .i64 0] 90) = w2 at *
  refine (refw_Num hW2 hz2 (by omega) (c)).mono ?_
  rintro e w3 ⟨v3, rfl, hW3, hq3, _⟩
  have hW3 : RefW w3 g g v3 (b0 ++ num8 (c)) none := hW3
  obtain ⟨b1, hb1⟩ : ∃ b, Hid (b0 ++ num8 (c) = b) := ⟨_, rfl⟩
  rw [hb1.out] at hW3
  have hl1 : b1.length = b0.length + 8 := by rw [← hb1.out, List.length_append, num8_length]
  have hB3 := wrote_blk hB2 hW2.blk hW2.own hq3 (by decide) (by decide)
  have hf3 := wrote_fr hf2 hW2.own hsg hsg hq3
  have hz3 : g ≤ w3.heap.size := Nat.le_of_lt hW3.blk.lt
  clear hq3 hW2 hB2 hf2 hz2
  have hc3_1 := hB3.cell 1
  go_wp2_with fail
  refine (refw_Num hW3 hz3 (by omega) (n)).mono ?_
  rintro e w4 ⟨v4, rfl, hW4, hq4, _⟩
  have hW4 : RefW w4 g g v4 (b1 ++ num8 (n)) none := hW4
  obtain ⟨b2, hb2⟩ : ∃ b, Hid (b1 ++ num8 (n) = b) := ⟨_, rfl⟩
  rw [hb2.out] at hW4
  have hl2 : b2.length = b1.length + 8 := by rw [← hb2.out, List.length_append, num8_length]
  have hB4 := wrote_blk hB3 hW3.blk hW3.own hq4 (by decide) (by decide)
  have hf4 := wrote_fr hf3 hW3.own hsg hsg hq4
  have hz4 : g ≤ w4.heap.size := Nat.le_of_lt hW4.blk.lt
  clear hq4 hW3 hB3 hf3 hz3
  have hc4_2 := hB4.cell 2
  go_wp2_with fail
  refine (refw_Num hW4 hz4 (by omega) ((R.length : Int))).mono ?_
  rintro e w5 ⟨v5, rfl, hW5, hq5, _⟩
  have hW5 : RefW w5 g g v5 (b2 ++ num8 ((R.length : Int))) none := hW5
  obtain ⟨b3, hb3⟩ : ∃ b, Hid (b2 ++ num8 ((R.length : Int)) = b) := ⟨_, rfl⟩
  rw [hb3.out] at hW5
  have hl3 : b3.length = b2.length + 8 := by rw [← hb3.out, List.length_append, num8_length]
  have hB5 := wrote_blk hB4 hW4.blk hW4.own hq5 (by decide) (by decide)
  have hf5 := wrote_fr hf4 hW4.own hsg hsg hq5
  have hz5 : g ≤ w5.heap.size := Nat.le_of_lt hW5.blk.lt
  clear hq5 hW4 hB4 hf4 hz4
  have hc5_2 := hB5.cell 2
  go_wp2_with fail
  go_loopw [5] (fun ix wr => ∃ (q : Nat) (v : Value), q ≤ R.length ∧ ix = .int .i64 q ∧ RefW wr g g v (b3 ++ (R.take q).flatMap readB) none ∧ Blk wr gB 25 #[.int .i64 c, .int .i64 n, .slice A R.length cr, .slice B W.length cw] ∧ Fr (fun _ => False) w wr) (fun ix _ => R.length - (intOf ix).toNat)
  case atStart => exact ⟨0, _, by omega, rfl, by rw [List.take_zero, List.flatMap_nil, List.append_nil]; exact hW5, hB5, hf5⟩
  case round =>
    clear hW5 hB5 hf5 hz5
    obtain ⟨q, v5, hq, rfl, hW5, hB5, hf5⟩ := hrel
    have hz5 : g ≤ wr.heap.size := Nat.le_of_lt hW5.blk.lt
    have hcl := hB5.cell 2
    have hlf := flat_take_le HBR.out hlR q
    have hlf : (b3 ++ (R.take q).flatMap readB).length ≤ 6000 := by rw [List.length_append]; omega
    by_cases hlt : q < R.length
    · obtain ⟨x, hx⟩ : ∃ x, R[q]? = some x := ⟨R[q], List.getElem?_eq_getElem hlt⟩
      obtain ⟨b, o, rfl, _, e0, e1⟩ := HRr.out q x hx
      have d0 := hf5.cell_some e0 id
      have d1 := hf5.cell_some e1 id
      have HX := Lib.hid hx
      have hx16 := HKR.out x (List.mem_of_getElem? hx)
      have E0 := Lib.hid e0
      have E1 := Lib.hid e1
      clear hx e0 e1
      obtain ⟨bq, hbq⟩ : ∃ b, Hid (b3 ++ (R.take q).flatMap readB = b) := ⟨_, rfl⟩
      rw [hbq.out] at hW5 hlf
      have hcs5 := run_str wr x.1
      have hws5 := hW5.fr (strW_fr wr x.1) id (fun _ _ => id)
      have hbs5 := hB5.fr (strW_fr wr x.1) id
      have hfs5 := hf5.then_ (strW_fr wr x.1)
      have hzs5 : g ≤ (strW wr x.1).heap.size := Nat.le_trans hz5 (strW_fr wr x.1).size
      have HT5 := refw_Text (cap := grownCap wr x.1.size 0 5) hws5 hzs5 (strW_row wr x.1) (fun k e1 e2 => own8_new hW5.own (e1 ▸ e2)) (by rw [bytesOf_length]; omega) (.inl (by rw [bytesOf_length]; omega))
      rw [bytesOf_length, if_pos (by omega)] at HT5
      have HT5 := Lib.hid HT5
      go_wp2_with fail
      clear hcs5
      refine HT5.out.mono ?_
      rintro e w6 ⟨v6, rfl, hW6, hq6, _⟩
      have hW6 : RefW w6 g g v6 (bq ++ textB (bytesOf x.1)) none := hW6
      have hB6 := wrote_blk hbs5 hws5.blk hws5.own hq6 (by decide) (by decide)
      have hf6 := wrote_fr hfs5 hws5.own hsg hsg hq6
      have hz6 : g ≤ w6.heap.size := Nat.le_of_lt hW6.blk.lt
      clear hq6 hW5 hB5 hf5 hws5 hbs5 hfs5 HT5 hzs5 hz5
      have hcl := hB6.cell 2
      have d1 := hf6.cell_some E1.out id
      have hlb : (bq ++ textB (bytesOf x.1)).length ≤ 7000 := by rw [List.length_append, textB_len]; omega
      go_wp2_with (go_at_call 34; refine (refw_Num hW6 hz6 (by omega) x.2).mono ?_; rintro e wn ⟨vn, rfl, hWn, hqn, _⟩)
      have hWn : RefW wn g g vn ((bq ++ textB (bytesOf x.1)) ++ num8 x.2) none := hWn
      have hBn := wrote_blk hB6 hW6.blk hW6.own hqn (by decide) (by decide)
      have hfn := wrote_fr hf6 hW6.own hsg hsg hqn
      go_roundw
      case rel => exact ⟨q + 1, _, by omega, by go_num, by rw [flat_take readB HX.out, readB, ← List.append_assoc, ← List.append_assoc, hbq.out]; exact hWn, hBn, hfn⟩
      case measure => simp [intOf]; omega
    · obtain rfl : q = R.length := by omega
      rw [List.take_length] at hW5 hlf
      obtain ⟨b4, hb4⟩ : ∃ b, Hid (b3 ++ R.flatMap readB = b) := ⟨_, rfl⟩
      rw [hb4.out] at hW5 hlf
      generalize wr = w5 at *
      clear hlt
      have hc5_3 := hB5.cell 3
      have hl4 : b4.length ≤ 300 := by rw [← hb4.out, List.length_append]; have := fl_le R HBR.out; have := Nat.mul_le_mul (Nat.le_refl 28) hlR; omega
      clear hlf
      go_wp2_with fail
      refine (refw_Num hW5 hz5 (by omega) ((W.length : Int))).mono ?_
      rintro e w6 ⟨v6, rfl, hW6, hq6, _⟩
      have hW6 : RefW w6 g g v6 (b4 ++ num8 ((W.length : Int))) none := hW6
      obtain ⟨b5, hb5⟩ : ∃ b, Hid (b4 ++ num8 ((W.length : Int)) = b) := ⟨_, rfl⟩
      rw [hb5.out] at hW6
      have hl5 : b5.length = b4.length + 8 := by rw [← hb5.out, List.length_append, num8_length]
      have hB6 := wrote_blk hB5 hW5.blk hW5.own hq6 (by decide) (by decide)
      have hf6 := wrote_fr hf5 hW5.own hsg hsg hq6
      have hz6 : g ≤ w6.heap.size := Nat.le_of_lt hW6.blk.lt
      clear hq6 hW5 hB5 hf5 hz5
      have hc6_3 := hB6.cell 3
      have hl5 : b5.length ≤ 308 := by omega
      go_wp2_with fail
      go_loopw [6] (fun ix wr => ∃ (q : Nat) (v : Value), q ≤ W.length ∧ ix = .int .i64 q ∧ RefW wr g g v (b5 ++ (W.take q).flatMap writeB) none ∧ Blk wr gB 25 #[.int .i64 c, .int .i64 n, .slice A R.length cr, .slice B W.length cw] ∧ Fr (fun _ => False) w wr) (fun ix _ => W.length - (intOf ix).toNat)
      case atStart => exact ⟨0, _, by omega, rfl, by rw [List.take_zero, List.flatMap_nil, List.append_nil]; exact hW6, hB6, hf6⟩
      case round =>
        clear hW6 hB6 hf6 hz6
        obtain ⟨q, v6, hq, rfl, hW6, hB6, hf6⟩ := hrel
        have hz6 : g ≤ wr.heap.size := Nat.le_of_lt hW6.blk.lt
        have hcl := hB6.cell 3
        have hlf := flat_take_le HBW.out hlW q
        have hlf : (b5 ++ (W.take q).flatMap writeB).length ≤ 6000 := by rw [List.length_append]; omega
        by_cases hlt : q < W.length
        · obtain ⟨x, hx⟩ : ∃ x, W[q]? = some x := ⟨W[q], List.getElem?_eq_getElem hlt⟩
          obtain ⟨b, o, rfl, _, e0, e1⟩ := HWr.out q x hx
          have d0 := hf6.cell_some e0 id
          have d1 := hf6.cell_some e1 id
          have HX := Lib.hid hx
          have hx16 := HKW.out x (List.mem_of_getElem? hx)
          have hx64 := hx16.2
          have hx16 := hx16.1
          have E0 := Lib.hid e0
          have E1 := Lib.hid e1
          clear hx e0 e1
          obtain ⟨bq, hbq⟩ : ∃ b, Hid (b5 ++ (W.take q).flatMap writeB = b) := ⟨_, rfl⟩
          rw [hbq.out] at hW6 hlf
          have hcs6 := run_str wr x.1
          have hws6 := hW6.fr (strW_fr wr x.1) id (fun _ _ => id)
          have hbs6 := hB6.fr (strW_fr wr x.1) id
          have hfs6 := hf6.then_ (strW_fr wr x.1)
          have hzs6 : g ≤ (strW wr x.1).heap.size := Nat.le_trans hz6 (strW_fr wr x.1).size
          have HT6 := refw_Text (cap := grownCap wr x.1.size 0 5) hws6 hzs6 (strW_row wr x.1) (fun k e1 e2 => own8_new hW6.own (e1 ▸ e2)) (by rw [bytesOf_length]; omega) (.inl (by rw [bytesOf_length]; omega))
          rw [bytesOf_length, if_pos (by omega)] at HT6
          have HT6 := Lib.hid HT6
          go_wp2_with fail
          clear hcs6
          refine HT6.out.mono ?_
          rintro e w7 ⟨v7, rfl, hW7, hq7, _⟩
          have hW7 : RefW w7 g g v7 (bq ++ textB (bytesOf x.1)) none := hW7
          have hB7 := wrote_blk hbs6 hws6.blk hws6.own hq7 (by decide) (by decide)
          have hf7 := wrote_fr hfs6 hws6.own hsg hsg hq7
          have hz7 : g ≤ w7.heap.size := Nat.le_of_lt hW7.blk.lt
          clear hq7 hW6 hB6 hf6 hws6 hbs6 hfs6 HT6 hzs6 hz6
          have hcl := hB7.cell 3
          have d1 := hf7.cell_some E1.out id
          have hlb : (bq ++ textB (bytesOf x.1)).length ≤ 7000 := by rw [List.length_append, textB_len]; omega
          obtain ⟨bt, hbt⟩ : ∃ b, Hid ((bq ++ textB (bytesOf x.1)) = b) := ⟨_, rfl⟩
          rw [hbt.out] at hW7 hlb
          have hcs7 := run_str w7 x.2
          have hws7 := hW7.fr (strW_fr w7 x.2) id (fun _ _ => id)
          have hbs7 := hB7.fr (strW_fr w7 x.2) id
          have hfs7 := hf7.then_ (strW_fr w7 x.2)
          have hzs7 : g ≤ (strW w7 x.2).heap.size := Nat.le_trans hz7 (strW_fr w7 x.2).size
          have HT7 := refw_Text (cap := grownCap w7 x.2.size 0 5) hws7 hzs7 (strW_row w7 x.2) (fun k e1 e2 => own8_new hW7.own (e1 ▸ e2)) (by rw [bytesOf_length]; omega) (.inl (by rw [bytesOf_length]; omega))
          rw [bytesOf_length, if_pos (by omega)] at HT7
          have HT7 := Lib.hid HT7
          go_wp2_with (go_at_call 35; refine HT7.out.mono ?_; rintro e w8 ⟨v8, rfl, hW8, hq8, _⟩)
          have hW8 : RefW w8 g g v8 (bt ++ textB (bytesOf x.2)) none := hW8
          have hB8 := wrote_blk hbs7 hws7.blk hws7.own hq8 (by decide) (by decide)
          have hf8 := wrote_fr hfs7 hws7.own hsg hsg hq8
          have hz8 : g ≤ w8.heap.size := Nat.le_of_lt hW8.blk.lt
          clear hq8 hW7 hB7 hf7 hws7 hbs7 hfs7 HT7 hzs7 hz7
          have hWn := hW8
          have hBn := hB8
          have hfn := hf8
          go_roundw
          case rel => exact ⟨q + 1, _, by omega, by go_num, by rw [flat_take writeB HX.out, writeB, ← List.append_assoc, ← List.append_assoc, hbq.out, hbt.out]; exact hWn, hBn, hfn⟩
          case measure => simp [intOf]; omega
        · obtain rfl : q = W.length := by omega
          rw [List.take_length] at hW6 hlf
          obtain ⟨b6, hb6⟩ : ∃ b, Hid (b5 ++ W.flatMap writeB = b) := ⟨_, rfl⟩
          rw [hb6.out] at hW6 hlf
          generalize wr = w6 at *
          clear hlt
          have he : txnB c n R W = b6 := by
            unfold txnB
            have e0 : num8 c = b1 := by rw [← hb1.out, ← hb0.out]; rfl
            rw [e0, hb2.out, hb3.out, hb4.out, hb5.out, hb6.out]
          have HE := Lib.hid he
          clear he
          go_wp2_with fail
          refine (refw_Bytes hW6 (by omega)).mono ?_
          rintro e wz ⟨vz, rfl, hvz, hfz⟩
          go_wp2_with fail
          refine bodyPost_ret (v := .tuple #[vz, .int .i64 0]) (by simp [results, Tryz.results22, go_sem]) rfl ?_
          unfold PutT
          rw [HE.out]
          exact ⟨vz, rfl, own_base hvz (hf6.size), hf6.then_ hfz⟩
end Go.Proofs.YtcfanacfjcgnbaaGreatDoor
