/- cohortlaw12: Outcomes. -/
import Derived.Test.YtcfanacfjcgnbaaGreatDoorHead20
namespace Go.Proofs.YtcfanacfjcgnbaaGreatDoor
open Go Go.RowKit
theorem sayL_dec {L : List (List Int)} {d : Int} (h0 : 0 ≤ d) (h1 : d ≤ 2147483647) (yes : Bool) : sayL L (decS d yes) = digL L (sayB (decS d yes)) := if_pos (okDec h0 h1 yes)
theorem put_dec {d : Int} (h0 : 0 ≤ d) (h1 : d ≤ 2147483647) (yes : Bool) (w : World) : Calls Tryz.prog 17 #[.agg #[.int .i64 3, .int .i64 d, .bool yes, .string ⟨#[]⟩, .string ⟨#[]⟩, .int .i64 0, .int .i64 0, .int .i64 0, .int .i64 0]] w (Fresh w (sayB (decS d yes))) := by
  have HP := ref11_Put1 w 3 d yes ⟨#[]⟩ ⟨#[]⟩ 0 0 0 0
  have hok' : OkSay ⟨3, d, yes, ⟨#[]⟩, ⟨#[]⟩, 0, 0, 0, 0⟩ := okDec h0 h1 yes
  rw [if_pos hok'] at HP
  exact HP
theorem decB_len {d : Int} (h0 : 0 ≤ d) (h1 : d ≤ 2147483647) (yes : Bool) : (sayB (decS d yes)).length ≤ 65536 := by
  obtain ⟨a, b, c⟩ := sayB_length (okDec h0 h1 yes)
  omega
set_option maxRecDepth 100000 in
theorem law12_Outcomes {w : World} {lo gw : Nat} {L : List (List Int)} {SL : List (Int × Int)} {nQ : Nat} (h : WP w lo gw L SL nQ) (hL : L.length < 4990) (d : Int) (h0 : 0 ≤ d) (h1 : d ≤ 2147483647) :
    Calls Tryz.prog 11 #[.pointer (some ⟨gw, 0, none⟩), .int .i64 d] w (fun e w' => e = .returned (.tuple #[]) ∧ WP w' lo gw (sayL (sayL L (decS d true)) (decS d false)) SL nQ ∧ St lo w w') := by
  have HP1 := Lib.hid (put_dec h0 h1 true)
  have HP2 := Lib.hid (put_dec h0 h1 false)
  have e1 := Lib.hid (sayL_dec (L := L) h0 h1 true)
  have e2 := Lib.hid (sayL_dec (L := sayL L (decS d true)) h0 h1 false)
  have B1 := Lib.hid (b8_sayB (decS d true))
  have B2 := Lib.hid (b8_sayB (decS d false))
  have N1 := Lib.hid (decB_len h0 h1 true)
  have N2 := Lib.hid (decB_len h0 h1 false)
  have HL := Lib.hid hL
  have l1 := Lib.hid (sayL_len L (decS d true))
  rw [e2.out, e1.out]
  rw [e1.out] at l1 e2
  generalize sayB (decS d true) = xs at *
  generalize sayB (decS d false) = ys at *
  clear hL h0 h1 e1 e2
  go_enter Tryz.func11, Tryz.ntmps11
  go_wp2_with fail
  refine (HP1.out _).mono ?_
  rintro e w1 ⟨v1, rfl, hv1, hf1⟩
  obtain ⟨A1, cap1, rfl, _, _⟩ := hv1.form
  have h1 := h.keep hf1
  go_wp2_with fail
  refine (wp_Digest h1 (by have := HL.out; omega) hv1 B1.out N1.out).mono ?_
  rintro e w2 ⟨rfl, h2, hst2⟩
  go_wp2_with fail
  refine (HP2.out _).mono ?_
  rintro e w3 ⟨v3, rfl, hv3, hf3⟩
  obtain ⟨A3, cap3, rfl, _, _⟩ := hv3.form
  have h3 := h2.keep hf3
  go_wp2_with fail
  refine (wp_Digest h3 (by have := HL.out; have := l1.out; omega) hv3 B2.out N2.out).mono ?_
  rintro e w4 ⟨rfl, h4, hst4⟩
  go_wp2_with fail
  refine bodyPost_end (v := .tuple #[]) (by simp [results, go_sem]) rfl ?_
  exact ⟨rfl, h4, (((St.of lo hf1).trans hst2).trans (St.of lo hf3)).trans hst4⟩
end Go.Proofs.YtcfanacfjcgnbaaGreatDoor
