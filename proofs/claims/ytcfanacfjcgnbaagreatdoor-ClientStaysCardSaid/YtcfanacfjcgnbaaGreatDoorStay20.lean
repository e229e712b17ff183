/- cohortlaw20: ClientStays: the walk. -/
import Derived.Test.YtcfanacfjcgnbaaGreatDoorOutc12
import Derived.Test.YtcfanacfjcgnbaaGreatDoorBel20W
namespace Go.Proofs.YtcfanacfjcgnbaaGreatDoor
open Go Go.RowKit
set_option maxRecDepth 100000 in
set_option maxHeartbeats 4000000 in
theorem stays20_walk {w : World} (hL : Laid w) (f : Int) (hf : 0 ≤ f ∧ f ≤ 255) {c n : Int} {A : Option Addr} {cr : Nat} {R : List (ByteArray × Int)} {B : Option Addr} {cw : Nat} {W : List (ByteArray × ByteArray)} (hr : ReadRow w (fun k => k < w.heap.size) A R) (hw : WriteRow w (fun k => k < w.heap.size) B W) (lR : R.length ≤ 9223372036854775807) (lW : W.length ≤ 9223372036854775807)
    {D : Option Addr} {cl : Nat} {l : List VoteD} (hv : VoteRow w (fun k => k < w.heap.size) D l) (hll : l.length ≤ 9223372036854775807) {E : Option Addr} {cm : Nat} {m2 : List VoteD} (hv2 : VoteRow w (fun k => k < w.heap.size) E m2) (hll2 : m2.length ≤ 9223372036854775807) :
    Calls Tryz.prog 3 #[.int .u8 f, .agg #[.int .i64 c, .int .i64 n, .slice A R.length cr, .slice B W.length cw], .slice D l.length cl, .slice E m2.length cm] w (Bool1 w true) := by
  have hB0 := Blk.new w 25 #[.int .i64 c, .int .i64 n, .slice A R.length cr, .slice B W.length cw]
  have hf0 : Fr (fun _ => False) w (w.alloc (Obj.cells #[.int .i64 c, .int .i64 n, .slice A R.length cr, .slice B W.length cw] 25)) := (Fr.refl _ _).alloc _
  have hz0 : w.heap.size < (w.alloc (Obj.cells #[.int .i64 c, .int .i64 n, .slice A R.length cr, .slice B W.length cw] 25)).heap.size := by simp
  have HF := Lib.hid hf
  have HR := Lib.hid hr
  have HW := Lib.hid hw
  have HV := Lib.hid hv
  have HV2_ := Lib.hid hv2
  have HLR := Lib.hid lR
  have HLW := Lib.hid lW
  have HLL := Lib.hid hll
  have HLL2 := Lib.hid hll2
  clear hf hr hw hv lR lW hll hv2 hll2
  go_enter Tryz.func3, Tryz.ntmps3
  go_wp2_with fail
  generalize (w.alloc (Obj.cells #[.int .i64 c, .int .i64 n, .slice A R.length cr, .slice B W.length cw] 25)) = w0 at *
  refine (law20_head (hL.fr hf0 id)).mono ?_
  rintro e w1 ⟨rfl, hf1⟩
  go_wp2_with fail
  refine (wp_Start _).mono ?_
  rintro e w2 ⟨gw, rfl, hgw, h2, hf2⟩
  have hf02 := (hf0.then_ hf1).then_ hf2
  have hB2 := (hB0.fr hf1 id).fr hf2 id
  have HX : Hid (w.heap.size < w1.heap.size) := by have := hf1.size; show _ < _; omega
  have HR2 : Hid (ReadRow w2 (fun k => k < w1.heap.size) A R) := (HR.out.fr hf02 (fun _ _ => id)).mono (fun k hk => by have := HX.out; omega)
  have HW2 : Hid (WriteRow w2 (fun k => k < w1.heap.size) B W) := (HW.out.fr hf02 (fun _ _ => id)).mono (fun k hk => by have := HX.out; omega)
  have HV2 : Hid (VoteRow w2 (fun k => k < w1.heap.size) D l) := (HV.out.fr hf02 (fun _ _ => id)).mono (fun k hk => by have := HX.out; omega)
  have HM2 : Hid (VoteRow w2 (fun k => k < w1.heap.size) E m2) := (HV2_.out.fr hf02 (fun _ _ => id)).mono (fun k hk => by have := HX.out; omega)
  generalize w1.heap.size = lo at *
  generalize hxw : w.heap.size = x at *
  have HXW := Lib.hid hxw
  clear hxw
  have c0 := hB2.cell 0
  have c1 := hB2.cell 1
  have c2 := hB2.cell 2
  have c3 := hB2.cell 3
  clear hL hf0 hf1 hf2 hB0 hz0 hgw HR HW HV HV2_
  obtain ⟨kk, hkk⟩ : ∃ kk, Hid (wrap64 (f.tmod 4) = kk) := ⟨_, rfl⟩
  have HK : Hid (0 ≤ kk ∧ kk < 4) := by have := wrap64_u8 HF.out.1 (m := 4) (by decide) (by decide); rw [hkk.out] at this; exact this
  by_cases hl40 : (40 : Int) < l.length
  · go_wp2_with fail
    go_ret
    exact ⟨rfl, hf02⟩
  by_cases hm40 : (40 : Int) < m2.length
  · go_wp2_with fail
    go_ret
    exact ⟨rfl, hf02⟩
  have HLE : Hid (l.length ≤ 40) := by show _ ≤ _; omega
  have HME : Hid (m2.length ≤ 40) := by show _ ≤ _; omega
  go_wp2_with fail
  rw [hkk.out]
  refine (law10_Great HR2.out HW2.out HLR.out HLW.out).mono ?_
  rintro e w3 ⟨b, rfl, hf3⟩
  have hB3 := hB2.fr hf3 id
  have hf03 := hf02.then_ hf3
  have h3 := h2.keep hf3
  have HR3 := Lib.hid (HR2.out.fr hf3 (fun _ _ => id))
  have HW3 := Lib.hid (HW2.out.fr hf3 (fun _ _ => id))
  have HV3 := Lib.hid (HV2.out.fr hf3 (fun _ _ => id))
  have HM3 := Lib.hid (HM2.out.fr hf3 (fun _ _ => id))
  have c0 := hB3.cell 0
  have c1 := hB3.cell 1
  have c2 := hB3.cell 2
  have c3 := hB3.cell 3
  clear hB2 hf02 h2 HR2 HW2 HV2 HM2 hf3
  cases b
  case true =>
    go_wp2_with fail
    go_ret
    exact ⟨rfl, hf03⟩
  case false =>
  go_wp2_with fail
  refine (ref10_Right HR3.out HW3.out).mono ?_
  rintro e w4 ⟨rfl, hf4⟩
  have hB4 := hB3.fr hf4 id
  have hf04 := hf03.then_ hf4
  have h4 := h3.keep hf4
  have HR4 := Lib.hid (HR3.out.fr hf4 (fun _ _ => id))
  have HW4 := Lib.hid (HW3.out.fr hf4 (fun _ _ => id))
  have HV4 := Lib.hid (HV3.out.fr hf4 (fun _ _ => id))
  have HM4 := Lib.hid (HM3.out.fr hf4 (fun _ _ => id))
  have c0 := hB4.cell 0
  have c1 := hB4.cell 1
  have c2 := hB4.cell 2
  have c3 := hB4.cell 3
  clear hB3 hf03 h3 HR3 HW3 HV3 HM3 hf4
  by_cases ht : TOk c n R W
  case neg =>
    rw [decide_eq_false ht]
    clear ht
    go_wp2_with fail
    go_ret
    exact ⟨rfl, hf04⟩
  case pos =>
  rw [decide_eq_true ht]
  have ht' := Lib.hid ht
  clear ht
  obtain ⟨xs, hxs⟩ : ∃ xs, Hid (txnB c n R W = xs) := ⟨_, rfl⟩
  have hxl : Hid (xs.length ≤ 65536) := by have := txnB_len ht'.out; rw [hxs.out] at this; exact this
  have HT := wp_Txn (cr := cr) (cw := cw) h4 (by decide) HR4.out HW4.out ht'.out
  rw [hxs.out, digL_nil, digI_nil] at HT
  have HT := Lib.hid HT
  have HFIN : Hid (∀ w', St lo w4 w' → Fr (fun _ => False) w w') := fun w' hf => hf04.trans hf.fr (fun k hk e => by have := HX.out; have := HXW.out; omega)
  go_upto_region 7 with (go_at_call 9; refine HT.out.mono ?_; rintro e w5 ⟨rfl, h5, hst5⟩)
  have p5 := Pl.start [] xs (by decide)
  rw [digL_nil, digI_nil] at p5
  have P5 : Hid (Pl [xs] [] xs 0 []) := p5
  have l5 : Hid (([xs] : List (List Int)).length ≤ 1) := Nat.le_refl _
  generalize ([xs] : List (List Int)) = L5 at *
  clear HT c0 c1 c2 c3 h4 p5 hl40 hm40 hf04
  have hBd6 : Blk w5.drew x 25 #[.int .i64 c, .int .i64 n, .slice A R.length cr, .slice B W.length cw] := hB4.fr (hst5.trans (St.of lo ((Fr.refl (fun _ => False) w5).drew))).fr (by have := HX.out; omega)
  have hd6 := h5.keep ((Fr.refl (fun _ => False) w5).drew)
  have HRd6 := Lib.hid ((HR4.out.st hst5).fr ((Fr.refl (fun _ => False) w5).drew) (fun _ _ => id))
  have HWd6 := Lib.hid ((HW4.out.st hst5).fr ((Fr.refl (fun _ => False) w5).drew) (fun _ _ => id))
  have hstd6 := hst5.trans (St.of lo ((Fr.refl (fun _ => False) w5).drew))
  obtain ⟨g, m, base, v, gs, ms, gD, gQ, hN⟩ := hd6.open
  have hO := client_Outcome_ok (cr := cr) (cw := cw) hN.bs hN.base_le (by have := l5.out; omega) kk HK.out.1 HRd6.out HWd6.out ht'.out
  rw [hxs.out, P5.out.out] at hO
  rw [outP_nil HK.out.1] at hO
  have hO := Lib.hid hO
  have hG := Lib.hid (hd6.good.outStep (SL := []) kk hxl.out)
  clear hd6
  go_region_held3 (fun w' => w'.cell? ⟨gw, 0, none⟩ = some (.pointer (some ⟨g, 0, none⟩)) ∧ w'.cell? ⟨gw, 1, none⟩ = some (.pointer (some ⟨gs, 0, none⟩)) ∧ w'.cell? ⟨x, 0, none⟩ = some (.int .i64 c) ∧ w'.cell? ⟨x, 1, none⟩ = some (.int .i64 n) ∧ w'.cell? ⟨x, 2, none⟩ = some (.slice A R.length cr) ∧ w'.cell? ⟨x, 3, none⟩ = some (.slice B W.length cw)) (first | exact ⟨(lens_keep hN hst6).1, (lens_keep hN hst6).2, hB6.cell 0, hB6.cell 1, hB6.cell 2, hB6.cell 3⟩ | exact ⟨hN.b, hN.s, hBd6.cell 0, hBd6.cell 1, hBd6.cell 2, hBd6.cell 3⟩) (first | (go_at_call 10; refine hO.out.mono ?_; rintro e w6 hs6; obtain ⟨rfl, h6, hst6⟩ := hN.step hs6 hG.out (outL_prefix _ _ _ _); have hB6 := hst6.blk _ _ _ hBd6 (by decide)))
  rename_i hH
  clear hH
  have hst6 := hstd6.trans hst6
  clear hN hO hG hBd6 HRd6 HWd6 hstd6 hB6
  have P6 := Lib.hid (P5.out.outStep kk xs)
  have l6 : Hid ((outL kk L5 [] xs).length ≤ 4) := by have := outL_len kk L5 [] xs; have := l5.out; show _ ≤ _; omega
  generalize outL kk L5 [] xs = L6 at *
  clear P5 l5 h5 hst5
  go_upto_region 11 with (go_at_call 11; refine (law12_Outcomes h6 (by have := l6.out; omega) 0 (by decide) (by decide)).mono ?_; rintro e w7 ⟨rfl, h7, hst7⟩)
  have hrel0 : VR [] xs lo gw w4 6 w7 := ⟨_, [], 0, h7, (P6.out.say (decS 0 true)).say (decS 0 false), by have := l6.out; have := sayL_len L6 (decS 0 true); have := sayL_len (sayL L6 (decS 0 true)) (decS 0 false); omega, Nat.le_refl _, Nat.le_refl _, hst6.trans hst7⟩
  clear P6 l6 h6 hst6 h7 hst7
  go_loopw [14] (fun ix wr => ∃ (k : Nat), k ≤ l.length ∧ ix = .int .i64 k ∧ VR (l.take k) xs lo gw w4 (6 + k) wr) (fun ix _ => l.length - (intOf ix).toNat)
  case atStart => exact ⟨0, by omega, rfl, hrel0⟩
  case round =>
    clear hrel0
    obtain ⟨k, hk, rfl, L, SL, nQ, h5, p5, hl1, hl2, hl3, hst5⟩ := hrel
    have hkl : (l.take k).length = k := by rw [List.length_take]; omega
    have HKL := Lib.hid hkl
    rw [hkl] at hl2 hl3
    have HV5 := HV4.out.st hst5
    have HP5 := Lib.hid p5
    have H1 := Lib.hid hl1
    have H2 := Lib.hid hl2
    have H3 := Lib.hid hl3
    by_cases hlt : k < l.length
    · have hlt' : (k : Int) < (l.length : Int) := by omega
      obtain ⟨v, hx⟩ : ∃ v, l[k]? = some v := ⟨l[k], List.getElem?_eq_getElem hlt⟩
      obtain ⟨b, o, rfl, hFb, e0, e1, e2, e3⟩ := HV5 k v hx
      have HX' := Lib.hid hx
      have HVT := Lib.hid (law20_vote h5 (by have := HLE.out; omega) (by have := HLE.out; omega) 0 (by decide) v.gr v.mask v.yes v.kind)
      clear p5 hl1 hl2 hl3 hx HV5 hFb hkl
      go_wp2_with fail
      refine HVT.out.mono ?_
      rintro e w6 ⟨r6, rfl, h6, hst6⟩
      have hrel6 := VR.step (v := v) (by rw [HKL.out]; have := HLE.out; omega) HP5.out H1.out (by rw [HKL.out]; exact H2.out) (by rw [HKL.out]; exact H3.out) hst5 h6 hst6
      rw [← take_snoc HX'.out] at hrel6
      clear hst5 h6 hst6 e0 e1 e2 e3 HVT h5
      go_wp2_with fail
      go_roundw
      case rel => exact ⟨k + 1, by omega, by go_num, by rw [← Nat.add_assoc]; exact hrel6⟩
      case measure => simp [intOf]; omega
    · obtain rfl : k = l.length := by omega
      clear hlt p5 HV5 hkl HKL
      rw [List.take_length] at HP5
      go_upto_region 14 with fail
      have hBd8 : Blk wr.drew x 25 #[.int .i64 c, .int .i64 n, .slice A R.length cr, .slice B W.length cw] := hB4.fr (hst5.trans (St.of lo ((Fr.refl (fun _ => False) wr).drew))).fr (by have := HX.out; omega)
      have hd8 := h5.keep ((Fr.refl (fun _ => False) wr).drew)
      have HRd8 := Lib.hid ((HR4.out.st hst5).fr ((Fr.refl (fun _ => False) wr).drew) (fun _ _ => id))
      have HWd8 := Lib.hid ((HW4.out.st hst5).fr ((Fr.refl (fun _ => False) wr).drew) (fun _ _ => id))
      have hstd8 := hst5.trans (St.of lo ((Fr.refl (fun _ => False) wr).drew))
      obtain ⟨g, m, base, v, gs, ms, gD, gQ, hN⟩ := hd8.open
      have hO := client_Outcome_ok (cr := cr) (cw := cw) hN.bs hN.base_le (by have := H1.out; have := HLE.out; omega) kk HK.out.1 HRd8.out HWd8.out ht'.out
      rw [hxs.out, HP5.out.out] at hO
      have hO := Lib.hid hO
      have hG := Lib.hid (hd8.good.outStep (SL := SL) kk hxl.out)
      clear hd8
      go_region_held3 (fun w' => w'.cell? ⟨gw, 0, none⟩ = some (.pointer (some ⟨g, 0, none⟩)) ∧ w'.cell? ⟨gw, 1, none⟩ = some (.pointer (some ⟨gs, 0, none⟩)) ∧ w'.cell? ⟨x, 0, none⟩ = some (.int .i64 c) ∧ w'.cell? ⟨x, 1, none⟩ = some (.int .i64 n) ∧ w'.cell? ⟨x, 2, none⟩ = some (.slice A R.length cr) ∧ w'.cell? ⟨x, 3, none⟩ = some (.slice B W.length cw)) (first | exact ⟨(lens_keep hN hst8).1, (lens_keep hN hst8).2, hB8.cell 0, hB8.cell 1, hB8.cell 2, hB8.cell 3⟩ | exact ⟨hN.b, hN.s, hBd8.cell 0, hBd8.cell 1, hBd8.cell 2, hBd8.cell 3⟩) (first | (go_at_call 10; refine hO.out.mono ?_; rintro e w8 hs8; obtain ⟨rfl, h8, hst8⟩ := hN.step hs8 hG.out (outL_prefix _ _ _ _); have hB8 := hst8.blk _ _ _ hBd8 (by decide)))
      rename_i hH
      clear hH
      have hst8 := hstd8.trans hst8
      clear hN hO hG hBd8 HRd8 HWd8 hstd8 hB8
      have P8 := Lib.hid (HP5.out.outStep kk xs)
      have l8 : Hid ((outL kk L SL xs).length ≤ 49) := by have := outL_len kk L SL xs; have := H1.out; have := HLE.out; show _ ≤ _; omega
      have hrel0 : VR l xs lo gw w4 49 w8 := ⟨_, SL, nQ, h8, P8.out, l8.out, H2.out, H3.out, hst8⟩
      obtain ⟨a, ha⟩ : ∃ a, Hid (outP kk l = a) := ⟨_, rfl⟩
      rw [ha.out]
      clear P8 l8 h8 hst8 h5 hst5 hl1 hl2 hl3 H1 H2 H3 HP5 hk
      go_upto_region 16 with fail
      go_loopw [16] (fun ix wr => ∃ (k : Nat), k ≤ m2.length ∧ ix = .int .i64 k ∧ VR (l ++ m2.take k) xs lo gw w4 (49 + 4 * k) wr) (fun ix _ => m2.length - (intOf ix).toNat)
      case atStart => exact ⟨0, by omega, rfl, by rw [List.take_zero, List.append_nil]; exact hrel0⟩
      case round =>
        clear hrel0
        obtain ⟨k, hk, rfl, L, SL, nQ, h5, p5, hl1, hl2, hl3, hst5⟩ := hrel
        have hkl : (l ++ m2.take k).length ≤ 40 + k := by rw [List.length_append, List.length_take]; have := HLE.out; omega
        have HKL := Lib.hid hkl
        have HV5 := HM4.out.st hst5
        have HP5 := Lib.hid p5
        have H1 := Lib.hid hl1
        have H2 := Lib.hid hl2
        have H3 := Lib.hid hl3
        by_cases hlt : k < m2.length
        · have hlt' : (k : Int) < (m2.length : Int) := by omega
          obtain ⟨v, hx⟩ : ∃ v, m2[k]? = some v := ⟨m2[k], List.getElem?_eq_getElem hlt⟩
          obtain ⟨b, o, rfl, hFb, e0, e1, e2, e3⟩ := HV5 k v hx
          have HX' := Lib.hid hx
          have HVT := Lib.hid (law20_vote h5 (by have := HME.out; omega) (by have := HME.out; omega) 0 (by decide) v.gr v.mask v.yes v.kind)
          clear p5 hl1 hl2 hl3 hx HV5 hFb hkl
          go_wp2_with fail
          refine HVT.out.mono ?_
          rintro e w6 ⟨r6, rfl, h6, hst6⟩
          have hrel6 := VR.step (v := v) (by have := HKL.out; have := HME.out; omega) HP5.out H1.out H2.out H3.out hst5 h6 hst6
          rw [List.append_assoc, ← take_snoc HX'.out] at hrel6
          clear hst5 h6 hst6 e0 e1 e2 e3 HVT h5 HP5 H1 H2 H3
          obtain ⟨L7, SL7, nQ7, h7, p7, hl1, hl2, hl3, hst7⟩ := hrel6
          have P7 := Lib.hid p7
          have H1 := Lib.hid hl1
          have H2 := Lib.hid hl2
          have H3 := Lib.hid hl3
          clear p7 hl1 hl2 hl3
          go_upto_region 19 with fail
          have hBd9 : Blk w6.drew x 25 #[.int .i64 c, .int .i64 n, .slice A R.length cr, .slice B W.length cw] := hB4.fr (hst7.trans (St.of lo ((Fr.refl (fun _ => False) w6).drew))).fr (by have := HX.out; omega)
          have hd9 := h7.keep ((Fr.refl (fun _ => False) w6).drew)
          have HRd9 := Lib.hid ((HR4.out.st hst7).fr ((Fr.refl (fun _ => False) w6).drew) (fun _ _ => id))
          have HWd9 := Lib.hid ((HW4.out.st hst7).fr ((Fr.refl (fun _ => False) w6).drew) (fun _ _ => id))
          have hstd9 := hst7.trans (St.of lo ((Fr.refl (fun _ => False) w6).drew))
          obtain ⟨g, m, base, v, gs, ms, gD, gQ, hN⟩ := hd9.open
          have hO := client_Outcome_ok (cr := cr) (cw := cw) hN.bs hN.base_le (by have := H1.out; have := HME.out; omega) kk HK.out.1 HRd9.out HWd9.out ht'.out
          rw [hxs.out, P7.out.out] at hO
          have hO := Lib.hid hO
          have hG := Lib.hid (hd9.good.outStep (SL := SL7) kk hxl.out)
          clear hd9
          go_region_held3 (fun w' => w'.cell? ⟨gw, 0, none⟩ = some (.pointer (some ⟨g, 0, none⟩)) ∧ w'.cell? ⟨gw, 1, none⟩ = some (.pointer (some ⟨gs, 0, none⟩)) ∧ w'.cell? ⟨x, 0, none⟩ = some (.int .i64 c) ∧ w'.cell? ⟨x, 1, none⟩ = some (.int .i64 n) ∧ w'.cell? ⟨x, 2, none⟩ = some (.slice A R.length cr) ∧ w'.cell? ⟨x, 3, none⟩ = some (.slice B W.length cw)) (first | exact ⟨(lens_keep hN hst9).1, (lens_keep hN hst9).2, hB9.cell 0, hB9.cell 1, hB9.cell 2, hB9.cell 3⟩ | exact ⟨hN.b, hN.s, hBd9.cell 0, hBd9.cell 1, hBd9.cell 2, hBd9.cell 3⟩) (first | (go_at_call 10; refine hO.out.mono ?_; rintro e w9 hs9; obtain ⟨rfl, h9, hst9⟩ := hN.step hs9 hG.out (outL_prefix _ _ _ _); have hB9 := hst9.blk _ _ _ hBd9 (by decide)))
          rename_i hH
          clear hH
          have hst9 := hstd9.trans hst9
          clear hN hO hG hBd9 HRd9 HWd9 hstd9 hB9
          have P9 := Lib.hid (P7.out.outStep kk xs)
          have l9 : Hid ((outL kk L7 SL7 xs).length ≤ 49 + 4 * (k + 1)) := by have := outL_len kk L7 SL7 xs; have := H1.out; show _ ≤ _; omega
          have HR9 : Hid (VR (l ++ m2.take (k + 1)) xs lo gw w4 (49 + 4 * (k + 1)) w9) := ⟨_, SL7, nQ7, h9, P9.out, l9.out, H2.out, H3.out, hst9⟩
          obtain ⟨a2, ha2⟩ : ∃ a2, Hid (outP kk (l ++ m2.take (k + 1)) = a2) := ⟨_, rfl⟩
          rw [ha2.out]
          have hs := outP_stays kk l (m2.take (k + 1))
          rw [ha.out, ha2.out] at hs
          clear P9 l9 h9 hst9 h7 hst7 P7 H1 H2 H3
          by_cases q1 : a = 3
          · have q2 : a2 = 3 := hs.1 q1
            have A1 := Lib.hid q1
            subst q2
            clear hs
            go_wp2_with fail
            go_roundw
            case rel => exact ⟨k + 1, by omega, by go_num, HR9.out⟩
            case measure => simp [intOf]; omega
          · by_cases q3 : a = 0
            · clear hs
              go_wp2_with fail
              go_roundw
              case rel => exact ⟨k + 1, by omega, by go_num, HR9.out⟩
              case measure => simp [intOf]; omega
            · have q4 : ¬ a2 = 0 := hs.2 q3
              have q5 : (a2 == 0) = false := by simp [q4]
              clear hs
              go_wp2_with fail
              go_roundw
              case rel => exact ⟨k + 1, by omega, by go_num, HR9.out⟩
              case measure => simp [intOf]; omega
        · obtain rfl : k = m2.length := by omega
          have HS5 := Lib.hid hst5
          clear p5 HV5 hkl HKL hst5 h5 HP5 hl1 hl2 hl3 H1 H2 H3 hk hlt
          go_wp2_with fail
          go_ret
          exact ⟨rfl, HFIN.out _ HS5.out⟩
end Go.Proofs.YtcfanacfjcgnbaaGreatDoor
