/- cohortlaw20: ClientBelieves: the walk. -/
import Derived.Test.YtcfanacfjcgnbaaDoorHead20
import Derived.Test.YtcfanacfjcgnbaaDoorGreat10
namespace Go.Proofs.YtcfanacfjcgnbaaDoor
open Go Go.RowKit
theorem ReadRow.mono {w : World} {F G : Nat → Prop} {A : Option Addr} {l : List (ByteArray × Int)} (h : ReadRow w F A l) (hF : ∀ k, F k → G k) : ReadRow w G A l := fun k x hx => by
  obtain ⟨b, o, h1, h2, h3⟩ := h k x hx
  exact ⟨b, o, h1, hF b h2, h3⟩
theorem WriteRow.mono {w : World} {F G : Nat → Prop} {A : Option Addr} {l : List (ByteArray × ByteArray)} (h : WriteRow w F A l) (hF : ∀ k, F k → G k) : WriteRow w G A l := fun k x hx => by
  obtain ⟨b, o, h1, h2, h3⟩ := h k x hx
  exact ⟨b, o, h1, hF b h2, h3⟩
theorem VoteRow.mono {w : World} {F G : Nat → Prop} {A : Option Addr} {l : List VoteD} (h : VoteRow w F A l) (hF : ∀ k, F k → G k) : VoteRow w G A l := fun k x hx => by
  obtain ⟨b, o, h1, h2, h3⟩ := h k x hx
  exact ⟨b, o, h1, hF b h2, h3⟩
theorem maskP_snoc (yes : Bool) (vs : List VoteD) (v : VoteD) (m : Int) : maskP yes (vs ++ [v]) m = if v.gr = 0 ∧ v.kind = 3 ∧ v.yes = yes then bits .or .i64 (maskP yes vs m) (bits .and .i64 v.mask 1023) else maskP yes vs m := by
  rw [maskP_append, maskP, maskP]
theorem take_snoc {α : Type} {l : List α} {k : Nat} {x : α} (h : l[k]? = some x) : l.take (k + 1) = l.take k ++ [x] := by
  obtain ⟨hlt, rfl⟩ := List.getElem?_eq_some_iff.1 h
  exact List.take_succ_eq_append_getElem hlt
theorem wrap_small {z : Int} (h0 : 0 ≤ z) (h1 : z ≤ 1000000) : IntKind.i64.wrap z = z := by
  unfold IntKind.wrap
  simp [IntKind.bits, IntKind.signed]
  omega
/-- The votes up to k are signed. -/
def BelRel (l : List VoteD) (xs : List Int) (lo gw : Nat) (w4 : World) (k : Nat) (wr : World) : Prop :=
  ∃ L SL nQ, WP wr lo gw L SL nQ ∧ Pl L SL xs 0 (l.take k) ∧ L.length ≤ 1 + k ∧ SL.length ≤ 10 * k ∧ nQ ≤ 10 * k ∧ St lo w4 wr
theorem voteS_len (kind d : Int) (yes : Bool) (gr mask : Int) (L : List (List Int)) (SL : List (Int × Int)) : (voteS kind d yes gr mask L SL).length ≤ SL.length + 10 := by
  unfold voteS
  split
  · exact signTo_len _ _ _ _ 10
  · omega
theorem BelRel.step {l : List VoteD} {xs : List Int} {lo gw : Nat} {w4 wr w' : World} {k : Nat} {v : VoteD} {L : List (List Int)} {SL : List (Int × Int)} {nQ : Nat} (hk : k < 1000) (hv : l[k]? = some v) (p : Pl L SL xs 0 (l.take k)) (h1 : L.length ≤ 1 + k) (h2 : SL.length ≤ 10 * k) (h3 : nQ ≤ 10 * k) (hst : St lo w4 wr)
    (h' : WP w' lo gw (sayL L (kindS v.kind 0 v.yes)) (voteS v.kind 0 v.yes v.gr v.mask L SL) (nQ + 10)) (hst' : St lo wr w') : BelRel l xs lo gw w4 (k + 1) w' := by
  have e1 := sayL_len L (kindS v.kind 0 v.yes)
  have e2 := voteS_len v.kind 0 v.yes v.gr v.mask L SL
  refine ⟨_, _, _, h', ?_, by omega, by omega, by omega, hst.trans hst'⟩
  rw [take_snoc hv]
  exact p.vote (by omega) v
set_option maxRecDepth 100000 in
set_option maxHeartbeats 4000000 in
theorem believes_walk {w : World} (hL : Laid w) (f : Int) (hf : 0 ≤ f ∧ f ≤ 255) {c n : Int} {A : Option Addr} {cr : Nat} {R : List (ByteArray × Int)} {B : Option Addr} {cw : Nat} {W : List (ByteArray × ByteArray)} (hr : ReadRow w (fun k => k < w.heap.size) A R) (hw : WriteRow w (fun k => k < w.heap.size) B W) (lR : R.length ≤ 9223372036854775807) (lW : W.length ≤ 9223372036854775807)
    {D : Option Addr} {cl : Nat} {l : List VoteD} (hv : VoteRow w (fun k => k < w.heap.size) D l) (hll : l.length ≤ 9223372036854775807) :
    Calls Tryd.prog 3 #[.int .u8 f, .agg #[.int .i64 c, .int .i64 n, .slice A R.length cr, .slice B W.length cw], .slice D l.length cl] w (Bool1 w true) := by
  have hB0 := Blk.new w 25 #[.int .i64 c, .int .i64 n, .slice A R.length cr, .slice B W.length cw]
  have hf0 : Fr (fun _ => False) w (w.alloc (Obj.cells #[.int .i64 c, .int .i64 n, .slice A R.length cr, .slice B W.length cw] 25)) := (Fr.refl _ _).alloc _
  have hz0 : w.heap.size < (w.alloc (Obj.cells #[.int .i64 c, .int .i64 n, .slice A R.length cr, .slice B W.length cw] 25)).heap.size := by simp
  have HF := Lib.hid hf
  have HR := Lib.hid hr
  have HW := Lib.hid hw
  have HV := Lib.hid hv
  have HLR := Lib.hid lR
  have HLW := Lib.hid lW
  have HLL := Lib.hid hll
  clear hf hr hw hv lR lW hll
  go_enter Tryd.func3, Tryd.ntmps3
  go_wp2_with fail
  generalize (w.alloc (Obj.cells #[.int .i64 c, .int .i64 n, .slice A R.length cr, .slice B W.length cw] 25)) = w0 at *
  refine (law20_head (hL.fr hf0 id)).mono ?_
  rintro e w1 ⟨rfl, hf1⟩
  go_wp2_with fail
  refine (wp_Start _).mono ?_
  rintro e w2 ⟨gw, rfl, hgw, h2, hf2⟩
  have hf02 := (hf0.then_ hf1).then_ hf2
  have hB2 := (hB0.fr hf1 id).fr hf2 id
  have HX : Hid (w.heap.size < w1.heap.size) := by have := hf1.size; show _ < _; omega
  have HR2 : Hid (ReadRow w2 (fun k => k < w1.heap.size) A R) := (HR.out.fr hf02 (fun _ _ => id)).mono (fun k hk => by have := HX.out; omega)
  have HW2 : Hid (WriteRow w2 (fun k => k < w1.heap.size) B W) := (HW.out.fr hf02 (fun _ _ => id)).mono (fun k hk => by have := HX.out; omega)
  have HV2 : Hid (VoteRow w2 (fun k => k < w1.heap.size) D l) := (HV.out.fr hf02 (fun _ _ => id)).mono (fun k hk => by have := HX.out; omega)
  generalize w1.heap.size = lo at *
  generalize hxw : w.heap.size = x at *
  have HXW := Lib.hid hxw
  clear hxw
  have c0 := hB2.cell 0
  have c1 := hB2.cell 1
  have c2 := hB2.cell 2
  have c3 := hB2.cell 3
  clear hL hf0 hf1 hf2 hB0 hz0 hgw
  obtain ⟨kk, hkk⟩ : ∃ kk, Hid (wrap64 (f.tmod 4) = kk) := ⟨_, rfl⟩
  have HK : Hid (0 ≤ kk ∧ kk ≤ 3) := by
    have h1 := hkk.out
    rw [Int.tmod_eq_emod_of_nonneg HF.out.1] at h1
    have h2 : wrap64 (f % 4) = f % 4 := by
      unfold wrap64
      omega
    show _ ∧ _
    omega
  by_cases hl40 : (40 : Int) < l.length
  · go_wp2_with fail
    go_ret
    exact ⟨rfl, hf02⟩
  · go_wp2_with fail
    rw [hkk.out]
    refine (law10_Great HR2.out HW2.out HLR.out HLW.out).mono ?_
    rintro e w3 ⟨b, rfl, hf3⟩
    have hB3 := hB2.fr hf3 id
    have hf03 := hf02.then_ hf3
    have h3 := h2.keep hf3
    have HR3 := Lib.hid (HR2.out.fr hf3 (fun _ _ => id))
    have HW3 := Lib.hid (HW2.out.fr hf3 (fun _ _ => id))
    have HV3 := Lib.hid (HV2.out.fr hf3 (fun _ _ => id))
    have c0 := hB3.cell 0
    have c1 := hB3.cell 1
    have c2 := hB3.cell 2
    have c3 := hB3.cell 3
    clear hB2 hf02 h2 HR2 HW2 HV2 hf3
    cases b
    case true =>
      go_wp2_with fail
      go_ret
      exact ⟨rfl, hf03⟩
    case false =>
    go_wp2_with fail
    refine (ref10_Right HR3.out HW3.out).mono ?_
    rintro e w4 ⟨rfl, hf4⟩
    have hB4 := hB3.fr hf4 id
    have hf04 := hf03.then_ hf4
    have h4 := h3.keep hf4
    have HR4 := Lib.hid (HR3.out.fr hf4 (fun _ _ => id))
    have HW4 := Lib.hid (HW3.out.fr hf4 (fun _ _ => id))
    have HV4 := Lib.hid (HV3.out.fr hf4 (fun _ _ => id))
    have c0 := hB4.cell 0
    have c1 := hB4.cell 1
    have c2 := hB4.cell 2
    have c3 := hB4.cell 3
    clear hB3 hf03 h3 HR3 HW3 HV3 hf4
    by_cases ht : TOk c n R W
    case neg =>
      rw [decide_eq_false ht]
      clear ht
      go_wp2_with fail
      go_ret
      exact ⟨rfl, hf04⟩
    case pos =>
    rw [decide_eq_true ht]
    have ht' := Lib.hid ht
    clear ht
    obtain ⟨xs, hxs⟩ : ∃ xs, Hid (txnB c n R W = xs) := ⟨_, rfl⟩
    have hxl : Hid (xs.length ≤ 65536) := by have := txnB_len ht'.out; rw [hxs.out] at this; exact this
    have HT := wp_Txn (cr := cr) (cw := cw) h4 (by decide) HR4.out HW4.out ht'.out
    rw [hxs.out, digL_nil, digI_nil] at HT
    have HT := Lib.hid HT
    go_upto_region 10 with (go_at_call 9; refine HT.out.mono ?_; rintro e w5 ⟨rfl, h5, hst5⟩)
    have p5 := Pl.start [] xs (by decide)
    rw [digL_nil, digI_nil] at p5
    have hrel0 : BelRel l xs lo gw w4 0 w5 := ⟨[xs], [], 0, h5, p5, Nat.le_refl _, Nat.le_refl _, Nat.le_refl _, hst5⟩
    have HLE : Hid (l.length ≤ 40) := by show _ ≤ _; omega
    clear HT c0 c1 c2 c3 h4 h5 p5 hst5 hl40
    go_loopw [12, 13, 14] (fun yv nv ix wr => ∃ (k : Nat), k ≤ l.length ∧ yv = .int .i64 (maskP true (l.take k) 0) ∧ nv = .int .i64 (maskP false (l.take k) 0) ∧ ix = .int .i64 k ∧ BelRel l xs lo gw w4 k wr) (fun _ _ ix _ => l.length - (intOf ix).toNat)
    case atStart => exact ⟨0, by omega, rfl, rfl, rfl, hrel0⟩
    case round =>
      clear hrel0
      obtain ⟨k, hk, rfl, rfl, rfl, L, SL, nQ, h5, p5, hl1, hl2, hl3, hst5⟩ := hrel
      have HV5 := HV4.out.st hst5
      have HP5 := Lib.hid p5
      have H1 := Lib.hid hl1
      have H2 := Lib.hid hl2
      have H3 := Lib.hid hl3
      by_cases hlt : k < l.length
      · have hlt' : (k : Int) < (l.length : Int) := by omega
        have hk40 : k < 1000 := by have := HLE.out; omega
        obtain ⟨v, hx⟩ : ∃ v, l[k]? = some v := ⟨l[k], List.getElem?_eq_getElem hlt⟩
        obtain ⟨b, o, rfl, hFb, e0, e1, e2, e3⟩ := HV5 k v hx
        have HX' := Lib.hid hx
        have hvote := law20_vote h5 (by omega) (by omega) 0 (by decide) v.gr v.mask v.yes v.kind
        have s1 := maskP_snoc true (l.take k) v 0
        have s2 := maskP_snoc false (l.take k) v 0
        rw [← take_snoc hx] at s1 s2
        have S1 := Lib.hid s1
        have S2 := Lib.hid s2
        have HVT := Lib.hid hvote
        obtain ⟨gr, mask, yes, kind⟩ := v
        dsimp only at e0 e1 e2 e3 S1 S2 HVT
        have HE : Hid (∀ w', St lo wr w' → w'.cell? ⟨b, o + k * 4, none⟩ = some (.int .i64 gr) ∧ w'.cell? ⟨b, o + k * 4 + 1, none⟩ = some (.int .i64 mask) ∧ w'.cell? ⟨b, o + k * 4 + 2, none⟩ = some (.bool yes) ∧ w'.cell? ⟨b, o + k * 4 + 3, none⟩ = some (.int .i64 kind)) := fun w' hst => ⟨hst.fr.cell_some e0 (by dsimp only; omega), hst.fr.cell_some e1 (by dsimp only; omega), hst.fr.cell_some e2 (by dsimp only; omega), hst.fr.cell_some e3 (by dsimp only; omega)⟩
        clear p5 hl1 hl2 hl3 hx s1 s2 hvote HV5 h5 hFb
        go_wp2_with fail
        refine HVT.out.mono ?_
        rintro e w6 ⟨r6, rfl, h6, hst6⟩
        have hrel6 := BelRel.step hk40 HX'.out HP5.out H1.out H2.out H3.out hst5 h6 hst6
        obtain ⟨d0, d1, d2, d3⟩ := HE.out w6 hst6
        have HS6 := Lib.hid hrel6
        clear hst5 h6 hst6 hrel6 e0 e1 e2 e3 HVT HE
        have hrnd : ∀ (m1 m2 : Int), maskP true (l.take (k + 1)) 0 = m1 → maskP false (l.take (k + 1)) 0 = m2 → ∃ (q : Nat), q ≤ l.length ∧ Value.int .i64 m1 = .int .i64 (maskP true (l.take q) 0) ∧ Value.int .i64 m2 = .int .i64 (maskP false (l.take q) 0) ∧ Value.int .i64 ((k : Int) + 1) = .int .i64 q ∧ BelRel l xs lo gw w4 q w6 := fun m1 m2 q1 q2 => ⟨k + 1, by omega, by rw [q1], by rw [q2], by simp, HS6.out⟩
        have HRND := Lib.hid hrnd
        clear hrnd
        by_cases hg : gr = 0
        · by_cases hkd : kind = 3
          · subst hg
            subst hkd
            cases yes
            · go_wp2_with fail
              go_roundw
              case rel => exact HRND.out _ _ (S1.out.trans (if_neg (by simp))) (S2.out.trans (if_pos (by simp)))
              case measure => simp [intOf]; omega
            · go_wp2_with fail
              go_roundw
              case rel => exact HRND.out _ _ (S1.out.trans (if_pos (by simp))) (S2.out.trans (if_neg (by simp)))
              case measure => simp [intOf]; omega
          · have G1 := Lib.hid hkd
            go_wp2_with fail
            go_roundw
            case rel => exact HRND.out _ _ (S1.out.trans (if_neg (fun e => G1.out e.2.1))) (S2.out.trans (if_neg (fun e => G1.out e.2.1)))
            case measure => simp [intOf]; omega
        · have G1 := Lib.hid hg
          go_wp2_with fail
          go_roundw
          case rel => exact HRND.out _ _ (S1.out.trans (if_neg (fun e => G1.out e.1))) (S2.out.trans (if_neg (fun e => G1.out e.1)))
          case measure => simp [intOf]; omega
      · obtain rfl : k = l.length := by omega
        clear hlt p5 HV5
        rw [List.take_length] at HP5 ⊢
        have hM := pop_cnt true l
        have hN' := pop_cnt false l
        generalize maskP true l 0 = my at *
        generalize maskP false l 0 = mn at *
        go_upto_region 20 with fail
        have HM := Lib.hid hM
        have HM' := Lib.hid hN'
        clear hM hN'
        go_loopw [15, 16, 17] (fun mv nv ix wr' => ∃ (q : Nat), q ≤ 10 ∧ mv = .int .i64 (popTo my q) ∧ nv = .int .i64 (popTo mn q) ∧ ix = .int .i64 q ∧ wr' = wr) (fun _ _ ix _ => 10 - (intOf ix).toNat)
        case atStart => exact ⟨0, by omega, rfl, rfl, rfl, rfl⟩
        case round =>
          obtain ⟨q, hq, rfl, rfl, rfl, rfl⟩ := hrel
          by_cases hlt : q < 10
          · have hlt' : (q : Int) < 10 := by omega
            have a1 := popTo_le my q
            have a2 := popTo_le mn q
            have b1 := bits_and_one (my / 2 ^ q)
            have b2 := bits_and_one (mn / 2 ^ q)
            have s1 : IntKind.i64.wrap (popTo my q + bits .and .i64 (my / 2 ^ q) 1) = popTo my (q + 1) := by rw [wrap_small (by omega) (by omega)]; rfl
            have s2 : IntKind.i64.wrap (popTo mn q + bits .and .i64 (mn / 2 ^ q) 1) = popTo mn (q + 1) := by rw [wrap_small (by omega) (by omega)]; rfl
            clear a1 a2 b1 b2
            go_wp2_with fail
            go_roundw
            case rel => exact ⟨q + 1, by omega, by first | rfl | rw [s1], by first | rfl | rw [s2], by go_num, trivial⟩
            case measure => simp [intOf]; omega
          · obtain rfl : q = 10 := by omega
            clear hlt
            rw [HM.out, HM'.out]
            have HX9 : Hid (x < lo) := HX.out
            have hB6 := hB4.fr hst5.fr (by have := HX9.out; omega)
            have hB6 : Blk wr.drew x 25 #[.int .i64 c, .int .i64 n, .slice A R.length cr, .slice B W.length cw] := hB6
            have h6 := h5.keep ((Fr.refl (fun _ => False) wr).drew)
            have HR6 := Lib.hid ((HR4.out.st hst5).fr ((Fr.refl (fun _ => False) wr).drew) (fun _ _ => id))
            have HW6 := Lib.hid ((HW4.out.st hst5).fr ((Fr.refl (fun _ => False) wr).drew) (fun _ _ => id))
            have hstd := hst5.trans (St.of lo ((Fr.refl (fun _ => False) wr).drew))
            obtain ⟨g, m, base, v, gs, ms, gD, gQ, hN⟩ := h6.open
            have hO := client_Outcome_ok (cr := cr) (cw := cw) hN.bs hN.base_le (by have := HLE.out; have := H1.out; omega) kk HK.out.1 HR6.out HW6.out ht'.out
            rw [hxs.out, HP5.out.out] at hO
            have hG := Lib.hid (h6.good.outStep (SL := SL) kk hxl.out)
            have HFIN : Hid (∀ w', Fr (fun k => lo ≤ k) wr.drew w' → Fr (fun _ => False) w w') := fun w' hf => hf04.trans (hstd.fr.trans hf (fun _ _ h => h)) (fun k hk e => by have := HX9.out; have := HXW.out; omega)
            clear h6 h5 hf04 hst5 hstd hB4 hk
            by_cases hq1 : kk < (cnt l true : Nat)
            · by_cases hq2 : kk < (cnt l false : Nat)
              · have ho : outP kk l = 3 := if_pos hq1
                rw [ho] at hO
                have hO := Lib.hid hO
                clear ho
                go_upto_region 29 with fail
                clear hq1 hq2
                go_region_held3 (fun w' => w'.cell? ⟨gw, 0, none⟩ = some (.pointer (some ⟨g, 0, none⟩)) ∧ w'.cell? ⟨gw, 1, none⟩ = some (.pointer (some ⟨gs, 0, none⟩)) ∧ w'.cell? ⟨x, 0, none⟩ = some (.int .i64 c) ∧ w'.cell? ⟨x, 1, none⟩ = some (.int .i64 n) ∧ w'.cell? ⟨x, 2, none⟩ = some (.slice A R.length cr) ∧ w'.cell? ⟨x, 3, none⟩ = some (.slice B W.length cw)) (first | exact ⟨(lens_keep hN hst7).1, (lens_keep hN hst7).2, hB7.cell 0, hB7.cell 1, hB7.cell 2, hB7.cell 3⟩ | exact ⟨hN.b, hN.s, hB6.cell 0, hB6.cell 1, hB6.cell 2, hB6.cell 3⟩) (first | (go_at_call 11; refine hO.out.mono ?_; rintro e w7 hs7; obtain ⟨rfl, h7, hst7⟩ := hN.step hs7 hG.out (outL_prefix _ _ _ _); have hB7 := hst7.blk _ _ _ hB6 (by decide)))
                go_wp2_with fail
                go_ret
                exact ⟨rfl, HFIN.out _ hst7.fr⟩
              · have ho : outP kk l = 3 := if_pos hq1
                rw [ho] at hO
                have hO := Lib.hid hO
                clear ho
                go_upto_region 29 with fail
                clear hq1 hq2
                go_region_held3 (fun w' => w'.cell? ⟨gw, 0, none⟩ = some (.pointer (some ⟨g, 0, none⟩)) ∧ w'.cell? ⟨gw, 1, none⟩ = some (.pointer (some ⟨gs, 0, none⟩)) ∧ w'.cell? ⟨x, 0, none⟩ = some (.int .i64 c) ∧ w'.cell? ⟨x, 1, none⟩ = some (.int .i64 n) ∧ w'.cell? ⟨x, 2, none⟩ = some (.slice A R.length cr) ∧ w'.cell? ⟨x, 3, none⟩ = some (.slice B W.length cw)) (first | exact ⟨(lens_keep hN hst7).1, (lens_keep hN hst7).2, hB7.cell 0, hB7.cell 1, hB7.cell 2, hB7.cell 3⟩ | exact ⟨hN.b, hN.s, hB6.cell 0, hB6.cell 1, hB6.cell 2, hB6.cell 3⟩) (first | (go_at_call 11; refine hO.out.mono ?_; rintro e w7 hs7; obtain ⟨rfl, h7, hst7⟩ := hN.step hs7 hG.out (outL_prefix _ _ _ _); have hB7 := hst7.blk _ _ _ hB6 (by decide)))
                go_wp2_with fail
                go_ret
                exact ⟨rfl, HFIN.out _ hst7.fr⟩
            · by_cases hq2 : kk < (cnt l false : Nat)
              · have ho : outP kk l = 4 := (if_neg hq1).trans (if_pos hq2)
                rw [ho] at hO
                have hO := Lib.hid hO
                clear ho
                go_upto_region 29 with fail
                clear hq1 hq2
                go_region_held3 (fun w' => w'.cell? ⟨gw, 0, none⟩ = some (.pointer (some ⟨g, 0, none⟩)) ∧ w'.cell? ⟨gw, 1, none⟩ = some (.pointer (some ⟨gs, 0, none⟩)) ∧ w'.cell? ⟨x, 0, none⟩ = some (.int .i64 c) ∧ w'.cell? ⟨x, 1, none⟩ = some (.int .i64 n) ∧ w'.cell? ⟨x, 2, none⟩ = some (.slice A R.length cr) ∧ w'.cell? ⟨x, 3, none⟩ = some (.slice B W.length cw)) (first | exact ⟨(lens_keep hN hst7).1, (lens_keep hN hst7).2, hB7.cell 0, hB7.cell 1, hB7.cell 2, hB7.cell 3⟩ | exact ⟨hN.b, hN.s, hB6.cell 0, hB6.cell 1, hB6.cell 2, hB6.cell 3⟩) (first | (go_at_call 11; refine hO.out.mono ?_; rintro e w7 hs7; obtain ⟨rfl, h7, hst7⟩ := hN.step hs7 hG.out (outL_prefix _ _ _ _); have hB7 := hst7.blk _ _ _ hB6 (by decide)))
                go_wp2_with fail
                go_ret
                exact ⟨rfl, HFIN.out _ hst7.fr⟩
              · have ho : outP kk l = 0 := (if_neg hq1).trans (if_neg hq2)
                rw [ho] at hO
                have hO := Lib.hid hO
                clear ho
                go_upto_region 29 with fail
                clear hq1 hq2
                go_region_held3 (fun w' => w'.cell? ⟨gw, 0, none⟩ = some (.pointer (some ⟨g, 0, none⟩)) ∧ w'.cell? ⟨gw, 1, none⟩ = some (.pointer (some ⟨gs, 0, none⟩)) ∧ w'.cell? ⟨x, 0, none⟩ = some (.int .i64 c) ∧ w'.cell? ⟨x, 1, none⟩ = some (.int .i64 n) ∧ w'.cell? ⟨x, 2, none⟩ = some (.slice A R.length cr) ∧ w'.cell? ⟨x, 3, none⟩ = some (.slice B W.length cw)) (first | exact ⟨(lens_keep hN hst7).1, (lens_keep hN hst7).2, hB7.cell 0, hB7.cell 1, hB7.cell 2, hB7.cell 3⟩ | exact ⟨hN.b, hN.s, hB6.cell 0, hB6.cell 1, hB6.cell 2, hB6.cell 3⟩) (first | (go_at_call 11; refine hO.out.mono ?_; rintro e w7 hs7; obtain ⟨rfl, h7, hst7⟩ := hN.step hs7 hG.out (outL_prefix _ _ _ _); have hB7 := hst7.blk _ _ _ hB6 (by decide)))
                go_wp2_with fail
                go_ret
                exact ⟨rfl, HFIN.out _ hst7.fr⟩
end Go.Proofs.YtcfanacfjcgnbaaDoor
