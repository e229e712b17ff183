/- cohortlaw20: ClientApart: the walk. -/
import Derived.Test.YtcfanacfjcgnbaaGreatDoorSame10
import Derived.Test.YtcfanacfjcgnbaaGreatDoorBel20W
namespace Go.Proofs.YtcfanacfjcgnbaaGreatDoor
open Go Go.RowKit
def Has (L : List (List Int)) (ys : List Int) (e : Int) : Prop := ys ∈ L ∧ (L.idxOf ys : Int) = e
theorem Has.dig {L : List (List Int)} {ys : List Int} {e : Int} (h : Has L ys e) (zs : List Int) : Has (digL L zs) ys e := by
  obtain ⟨h1, h2⟩ := digL_old zs h.1
  exact ⟨h1, by rw [h2]; exact h.2⟩
theorem Has.say {L : List (List Int)} {ys : List Int} {e : Int} (h : Has L ys e) (s : SayD) : Has (sayL L s) ys e := by
  unfold sayL
  split
  · exact h.dig _
  · exact h
theorem Has.at_ {L : List (List Int)} {ys : List Int} {e : Int} (h : Has L ys e) : (digI L ys : Int) = e := by
  rw [← h.2]
  unfold digI
  rw [if_pos h.1]
theorem Has.start (L : List (List Int)) (ys : List Int) : Has (digL L ys) ys (digI L ys : Nat) := ⟨digL_mem L ys, by rw [digL_idx]⟩
theorem two_digs (xs ys : List Int) : (digI [xs] ys : Int) = if xs = ys then 0 else 1 := by
  unfold digI
  by_cases h : xs = ys
  · subst h; simp
  · rw [if_neg h, if_neg (by simpa using fun e => h e.symm)]; rfl
/-- These votes on the first one's transaction are signed. -/
def VA (vs : List VoteD) (xs ys : List Int) (E : Int) (lo gw : Nat) (w4 : World) (c : Nat) (wr : World) : Prop :=
  ∃ L SL nQ, WP wr lo gw L SL nQ ∧ Pl L SL xs 0 vs ∧ Has L ys E ∧ L.length ≤ c ∧ SL.length ≤ 10 * vs.length ∧ nQ ≤ 10 * vs.length ∧ St lo w4 wr
theorem VA.step {vs : List VoteD} {xs ys : List Int} {E : Int} {lo gw : Nat} {w4 wr w' : World} {c : Nat} {v : VoteD} {L : List (List Int)} {SL : List (Int × Int)} {nQ : Nat} (hk : vs.length < 1000) (p : Pl L SL xs 0 vs) (he : Has L ys E) (h1 : L.length ≤ c) (h2 : SL.length ≤ 10 * vs.length) (h3 : nQ ≤ 10 * vs.length) (hst : St lo w4 wr)
    (h' : WP w' lo gw (sayL L (kindS v.kind 0 v.yes)) (voteS v.kind 0 v.yes v.gr v.mask L SL) (nQ + 10)) (hst' : St lo wr w') : VA (vs ++ [v]) xs ys E lo gw w4 (c + 1) w' := by
  have e1 := sayL_len L (kindS v.kind 0 v.yes)
  have e2 := voteS_len v.kind 0 v.yes v.gr v.mask L SL
  have e3 : (vs ++ [v]).length = vs.length + 1 := by simp
  refine ⟨_, _, _, h', p.vote (by omega) v, he.say _, by omega, by omega, by omega, hst.trans hst'⟩
set_option maxRecDepth 100000 in
set_option maxHeartbeats 4000000 in
theorem apart_walk {w : World} (hL : Laid w) (f : Int) (hf : 0 ≤ f ∧ f ≤ 255) {c n : Int} {A : Option Addr} {cr : Nat} {R : List (ByteArray × Int)} {B : Option Addr} {cw : Nat} {W : List (ByteArray × ByteArray)} (hr : ReadRow w (fun k => k < w.heap.size) A R) (hw : WriteRow w (fun k => k < w.heap.size) B W) (lR : R.length ≤ 9223372036854775807) (lW : W.length ≤ 9223372036854775807)
    {c' n' : Int} {A' : Option Addr} {cr' : Nat} {R' : List (ByteArray × Int)} {B' : Option Addr} {cw' : Nat} {W' : List (ByteArray × ByteArray)} (hru : ReadRow w (fun k => k < w.heap.size) A' R') (hwu : WriteRow w (fun k => k < w.heap.size) B' W') (lRu : R'.length ≤ 9223372036854775807) (lWu : W'.length ≤ 9223372036854775807)
    {D : Option Addr} {cl : Nat} {l : List VoteD} (hv : VoteRow w (fun k => k < w.heap.size) D l) (hll : l.length ≤ 9223372036854775807) :
    Calls Tryz.prog 4 #[.int .u8 f, .agg #[.int .i64 c, .int .i64 n, .slice A R.length cr, .slice B W.length cw], .agg #[.int .i64 c', .int .i64 n', .slice A' R'.length cr', .slice B' W'.length cw'], .slice D l.length cl] w (Bool1 w true) := by
  have hB0 : Blk ((w.alloc (Obj.cells #[.int .i64 c, .int .i64 n, .slice A R.length cr, .slice B W.length cw] 25)).alloc (Obj.cells #[.int .i64 c', .int .i64 n', .slice A' R'.length cr', .slice B' W'.length cw'] 25)) w.heap.size 25 #[.int .i64 c, .int .i64 n, .slice A R.length cr, .slice B W.length cw] := (Blk.new w _ _).alloc _
  have hC0 : Blk ((w.alloc (Obj.cells #[.int .i64 c, .int .i64 n, .slice A R.length cr, .slice B W.length cw] 25)).alloc (Obj.cells #[.int .i64 c', .int .i64 n', .slice A' R'.length cr', .slice B' W'.length cw'] 25)) (w.heap.size + 1) 25 #[.int .i64 c', .int .i64 n', .slice A' R'.length cr', .slice B' W'.length cw'] := Blk.new_ _ _ _ (by simp)
  have hf0 : Fr (fun _ => False) w ((w.alloc (Obj.cells #[.int .i64 c, .int .i64 n, .slice A R.length cr, .slice B W.length cw] 25)).alloc (Obj.cells #[.int .i64 c', .int .i64 n', .slice A' R'.length cr', .slice B' W'.length cw'] 25)) := ((Fr.refl _ _).alloc _).alloc _
  have hz0 : w.heap.size + 1 < ((w.alloc (Obj.cells #[.int .i64 c, .int .i64 n, .slice A R.length cr, .slice B W.length cw] 25)).alloc (Obj.cells #[.int .i64 c', .int .i64 n', .slice A' R'.length cr', .slice B' W'.length cw'] 25)).heap.size := by simp
  have HF := Lib.hid hf
  have HR := Lib.hid hr
  have HW := Lib.hid hw
  have HU := Lib.hid hru
  have HY := Lib.hid hwu
  have HV := Lib.hid hv
  have HLR := Lib.hid lR
  have HLW := Lib.hid lW
  have HLU := Lib.hid lRu
  have HLY := Lib.hid lWu
  have HLL := Lib.hid hll
  clear hf hr hw hv lR lW hll hru hwu lRu lWu
  go_enter Tryz.func4, Tryz.ntmps4
  go_wp2_with fail
  generalize ((w.alloc (Obj.cells #[.int .i64 c, .int .i64 n, .slice A R.length cr, .slice B W.length cw] 25)).alloc (Obj.cells #[.int .i64 c', .int .i64 n', .slice A' R'.length cr', .slice B' W'.length cw'] 25)) = w0 at *
  refine (law20_head (hL.fr hf0 id)).mono ?_
  rintro e w1 ⟨rfl, hf1⟩
  go_wp2_with fail
  refine (wp_Start _).mono ?_
  rintro e w2 ⟨gw, rfl, hgw, h2, hf2⟩
  have hf02 := (hf0.then_ hf1).then_ hf2
  have hB2 := (hB0.fr hf1 id).fr hf2 id
  have hC2 := (hC0.fr hf1 id).fr hf2 id
  have HX : Hid (w.heap.size + 1 < w1.heap.size) := by have := hf1.size; show _ < _; omega
  have HR2 : Hid (ReadRow w2 (fun k => k < w1.heap.size) A R) := (HR.out.fr hf02 (fun _ _ => id)).mono (fun k hk => by have := HX.out; omega)
  have HW2 : Hid (WriteRow w2 (fun k => k < w1.heap.size) B W) := (HW.out.fr hf02 (fun _ _ => id)).mono (fun k hk => by have := HX.out; omega)
  have HU2 : Hid (ReadRow w2 (fun k => k < w1.heap.size) A' R') := (HU.out.fr hf02 (fun _ _ => id)).mono (fun k hk => by have := HX.out; omega)
  have HY2 : Hid (WriteRow w2 (fun k => k < w1.heap.size) B' W') := (HY.out.fr hf02 (fun _ _ => id)).mono (fun k hk => by have := HX.out; omega)
  have HV2 : Hid (VoteRow w2 (fun k => k < w1.heap.size) D l) := (HV.out.fr hf02 (fun _ _ => id)).mono (fun k hk => by have := HX.out; omega)
  generalize w1.heap.size = lo at *
  generalize hxw : w.heap.size = x at *
  have HXW := Lib.hid hxw
  clear hxw
  have c0 := hB2.cell 0
  have c1 := hB2.cell 1
  have c2 := hB2.cell 2
  have c3 := hB2.cell 3
  have d0 := hC2.cell 0
  have d1 := hC2.cell 1
  have d2 := hC2.cell 2
  have d3 := hC2.cell 3
  clear hL hf0 hf1 hf2 hB0 hC0 hz0 hgw HR HW HU HY HV
  obtain ⟨kk, hkk⟩ : ∃ kk, Hid (wrap64 (f.tmod 4) = kk) := ⟨_, rfl⟩
  have HK : Hid (0 ≤ kk ∧ kk < 4) := by have := wrap64_u8 HF.out.1 (m := 4) (by decide) (by decide); rw [hkk.out] at this; exact this
  by_cases hl40 : (40 : Int) < l.length
  · go_wp2_with fail
    go_ret
    exact ⟨rfl, hf02⟩
  have HLE : Hid (l.length ≤ 40) := by show _ ≤ _; omega
  go_upto_region 4 with fail
  rw [hkk.out]
  go_wp2_with fail
  refine (law10_Great HR2.out HW2.out HLR.out HLW.out).mono ?_
  rintro e w3 ⟨b, rfl, hfx⟩
  have hB3 := hB2.fr hfx id
  have hC3 := hC2.fr hfx id
  have hf03 := hf02.then_ hfx
  have h3 := h2.keep hfx
  have HR3 := Lib.hid (HR2.out.fr hfx (fun _ _ => id))
  have HW3 := Lib.hid (HW2.out.fr hfx (fun _ _ => id))
  have HU3 := Lib.hid (HU2.out.fr hfx (fun _ _ => id))
  have HY3 := Lib.hid (HY2.out.fr hfx (fun _ _ => id))
  have HV3 := Lib.hid (HV2.out.fr hfx (fun _ _ => id))
  have c0 := hB3.cell 0
  have c1 := hB3.cell 1
  have c2 := hB3.cell 2
  have c3 := hB3.cell 3
  have d0 := hC3.cell 0
  have d1 := hC3.cell 1
  have d2 := hC3.cell 2
  have d3 := hC3.cell 3
  clear hB2 hC2 hf02 h2 HR2 HW2 HU2 HY2 HV2 hfx
  cases b
  case true =>
    go_wp2_with fail
    go_ret
    exact ⟨rfl, hf03⟩
  case false =>
  go_wp2_with fail
  refine (law10_Great HU3.out HY3.out HLU.out HLY.out).mono ?_
  rintro e w4 ⟨b, rfl, hfx⟩
  have hB4 := hB3.fr hfx id
  have hC4 := hC3.fr hfx id
  have hf04 := hf03.then_ hfx
  have h4 := h3.keep hfx
  have HR4 := Lib.hid (HR3.out.fr hfx (fun _ _ => id))
  have HW4 := Lib.hid (HW3.out.fr hfx (fun _ _ => id))
  have HU4 := Lib.hid (HU3.out.fr hfx (fun _ _ => id))
  have HY4 := Lib.hid (HY3.out.fr hfx (fun _ _ => id))
  have HV4 := Lib.hid (HV3.out.fr hfx (fun _ _ => id))
  have c0 := hB4.cell 0
  have c1 := hB4.cell 1
  have c2 := hB4.cell 2
  have c3 := hB4.cell 3
  have d0 := hC4.cell 0
  have d1 := hC4.cell 1
  have d2 := hC4.cell 2
  have d3 := hC4.cell 3
  clear hB3 hC3 hf03 h3 HR3 HW3 HU3 HY3 HV3 hfx
  cases b
  case true =>
    go_wp2_with fail
    go_ret
    exact ⟨rfl, hf04⟩
  case false =>
  go_wp2_with fail
  refine (ref10_Right HR4.out HW4.out).mono ?_
  rintro e w5 ⟨rfl, hfx⟩
  have hB5 := hB4.fr hfx id
  have hC5 := hC4.fr hfx id
  have hf05 := hf04.then_ hfx
  have h5 := h4.keep hfx
  have HR5 := Lib.hid (HR4.out.fr hfx (fun _ _ => id))
  have HW5 := Lib.hid (HW4.out.fr hfx (fun _ _ => id))
  have HU5 := Lib.hid (HU4.out.fr hfx (fun _ _ => id))
  have HY5 := Lib.hid (HY4.out.fr hfx (fun _ _ => id))
  have HV5 := Lib.hid (HV4.out.fr hfx (fun _ _ => id))
  have c0 := hB5.cell 0
  have c1 := hB5.cell 1
  have c2 := hB5.cell 2
  have c3 := hB5.cell 3
  have d0 := hC5.cell 0
  have d1 := hC5.cell 1
  have d2 := hC5.cell 2
  have d3 := hC5.cell 3
  clear hB4 hC4 hf04 h4 HR4 HW4 HU4 HY4 HV4 hfx
  by_cases ht : TOk c n R W
  case neg =>
    rw [decide_eq_false ht]
    clear ht
    go_wp2_with fail
    go_ret
    exact ⟨rfl, hf05⟩
  case pos =>
  rw [decide_eq_true ht]
  have ht' := Lib.hid ht
  clear ht
  go_wp2_with fail
  refine (ref10_Right HU5.out HY5.out).mono ?_
  rintro e w6 ⟨rfl, hfx⟩
  have hB6 := hB5.fr hfx id
  have hC6 := hC5.fr hfx id
  have hf06 := hf05.then_ hfx
  have h6 := h5.keep hfx
  have HR6 := Lib.hid (HR5.out.fr hfx (fun _ _ => id))
  have HW6 := Lib.hid (HW5.out.fr hfx (fun _ _ => id))
  have HU6 := Lib.hid (HU5.out.fr hfx (fun _ _ => id))
  have HY6 := Lib.hid (HY5.out.fr hfx (fun _ _ => id))
  have HV6 := Lib.hid (HV5.out.fr hfx (fun _ _ => id))
  have c0 := hB6.cell 0
  have c1 := hB6.cell 1
  have c2 := hB6.cell 2
  have c3 := hB6.cell 3
  have d0 := hC6.cell 0
  have d1 := hC6.cell 1
  have d2 := hC6.cell 2
  have d3 := hC6.cell 3
  clear hB5 hC5 hf05 h5 HR5 HW5 HU5 HY5 HV5 hfx
  by_cases ht : TOk c' n' R' W'
  case neg =>
    rw [decide_eq_false ht]
    clear ht
    go_wp2_with fail
    go_ret
    exact ⟨rfl, hf06⟩
  case pos =>
  rw [decide_eq_true ht]
  have hu' := Lib.hid ht
  clear ht
  obtain ⟨xs, hxs⟩ : ∃ xs, Hid (txnB c n R W = xs) := ⟨_, rfl⟩
  obtain ⟨ys, hys⟩ : ∃ ys, Hid (txnB c' n' R' W' = ys) := ⟨_, rfl⟩
  have hyl : Hid (ys.length ≤ 65536) := by have := txnB_len hu'.out; rw [hys.out] at this; exact this
  have HT := wp_Txn (cr := cr) (cw := cw) h6 (by decide) HR6.out HW6.out ht'.out
  rw [hxs.out, digL_nil, digI_nil] at HT
  have HT := Lib.hid HT
  have HFIN : Hid (∀ w', St lo w6 w' → Fr (fun _ => False) w w') := fun w' hf => hf06.trans hf.fr (fun k hk e => by have := HX.out; have := HXW.out; omega)
  go_upto_region 7 with (go_at_call 9; refine HT.out.mono ?_; rintro e w7 ⟨rfl, h7, hst7⟩)
  have hB7 := hB6.fr hst7.fr (by have := HX.out; omega)
  have hC7 := hC6.fr hst7.fr (by have := HX.out; omega)
  clear HT c0 c1 c2 c3 d0 d1 d2 d3
  have c0 := hB7.cell 0
  have c1 := hB7.cell 1
  have c2 := hB7.cell 2
  have c3 := hB7.cell 3
  have d0 := hC7.cell 0
  have d1 := hC7.cell 1
  have d2 := hC7.cell 2
  have d3 := hC7.cell 3
  have HT := wp_Txn (cr := cr') (cw := cw') h7 (by show 1 < 5000; decide) (HU6.out.st hst7) (HY6.out.st hst7) hu'.out
  rw [hys.out] at HT
  have HE : Hid ((digI [xs] ys : Int) = if xs = ys then 0 else 1) := two_digs xs ys
  obtain ⟨E, hE⟩ : ∃ E : Int, Hid ((digI [xs] ys : Int) = E) := ⟨_, rfl⟩
  rw [hE.out] at HT HE
  have HT := Lib.hid HT
  go_upto_region 9 with (go_at_call 9; refine HT.out.mono ?_; rintro e w8 ⟨rfl, h8, hst8⟩)
  have p5 := Pl.start [] xs (by decide)
  rw [digL_nil, digI_nil] at p5
  have p8 := p5.dig ys
  have hs8 := Has.start [xs] ys
  rw [hE.out] at hs8
  have hrel0 : VA [] xs ys E lo gw w6 2 w8 := ⟨_, [], 0, h8, p8, hs8, digL_len _ _, Nat.le_refl _, Nat.le_refl _, hst7.trans hst8⟩
  clear HT c0 c1 c2 c3 d0 d1 d2 d3 h6 h7 h8 p5 p8 hs8 hst7 hst8 hB7 hC7 hl40 hf06
  go_loopw [15] (fun ix wr => ∃ (k : Nat), k ≤ l.length ∧ ix = .int .i64 k ∧ VA (l.take k) xs ys E lo gw w6 (2 + k) wr) (fun ix _ => l.length - (intOf ix).toNat)
  case atStart => exact ⟨0, by omega, rfl, hrel0⟩
  case round =>
    clear hrel0
    obtain ⟨k, hk, rfl, L, SL, nQ, h5, p5, hs5, hl1, hl2, hl3, hst5⟩ := hrel
    have hkl : (l.take k).length = k := by rw [List.length_take]; omega
    have HKL := Lib.hid hkl
    rw [hkl] at hl2 hl3
    have HV5 := HV6.out.st hst5
    have HP5 := Lib.hid p5
    have HS5 := Lib.hid hs5
    have H1 := Lib.hid hl1
    have H2 := Lib.hid hl2
    have H3 := Lib.hid hl3
    by_cases hlt : k < l.length
    · have hlt' : (k : Int) < (l.length : Int) := by omega
      obtain ⟨v, hx⟩ : ∃ v, l[k]? = some v := ⟨l[k], List.getElem?_eq_getElem hlt⟩
      obtain ⟨b, o, rfl, hFb, e0, e1, e2, e3⟩ := HV5 k v hx
      have HX' := Lib.hid hx
      have HVT := Lib.hid (law20_vote h5 (by have := HLE.out; omega) (by have := HLE.out; omega) 0 (by decide) v.gr v.mask v.yes v.kind)
      clear p5 hs5 hl1 hl2 hl3 hx HV5 hFb hkl
      go_wp2_with fail
      refine HVT.out.mono ?_
      rintro e w9 ⟨r9, rfl, h9, hst9⟩
      have hrel9 := VA.step (v := v) (by rw [HKL.out]; have := HLE.out; omega) HP5.out HS5.out H1.out (by rw [HKL.out]; exact H2.out) (by rw [HKL.out]; exact H3.out) hst5 h9 hst9
      rw [← take_snoc HX'.out] at hrel9
      clear hst5 h9 hst9 e0 e1 e2 e3 HVT h5
      go_wp2_with fail
      go_roundw
      case rel => exact ⟨k + 1, by omega, by go_num, by rw [← Nat.add_assoc]; exact hrel9⟩
      case measure => simp [intOf]; omega
    · obtain rfl : k = l.length := by omega
      clear hlt p5 HV5 hkl HKL
      rw [List.take_length] at HP5
      have HI : Hid ((digI L ys : Int) = E) := HS5.out.at_
      by_cases hs : c = c' ∧ n = n' ∧ R = R' ∧ W = W'
      · have hxy : xs = ys := by rw [← hxs.out, ← hys.out, hs.1, hs.2.1, hs.2.2.1, hs.2.2.2]
        have hE0 : E = 0 := HE.out.trans (if_pos hxy)
        clear hxy
        subst hE0
        go_upto_region 12 with fail
        have hBd : Blk wr.drew x 25 #[.int .i64 c, .int .i64 n, .slice A R.length cr, .slice B W.length cw] := hB6.fr (hst5.trans (St.of lo ((Fr.refl (fun _ => False) wr).drew))).fr (by have := HX.out; omega)
        have hCd : Blk wr.drew (x + 1) 25 #[.int .i64 c', .int .i64 n', .slice A' R'.length cr', .slice B' W'.length cw'] := hC6.fr (hst5.trans (St.of lo ((Fr.refl (fun _ => False) wr).drew))).fr (by have := HX.out; omega)
        have hd := h5.keep ((Fr.refl (fun _ => False) wr).drew)
        have HRd := Lib.hid ((HR6.out.st hst5).fr ((Fr.refl (fun _ => False) wr).drew) (fun _ _ => id))
        have HWd := Lib.hid ((HW6.out.st hst5).fr ((Fr.refl (fun _ => False) wr).drew) (fun _ _ => id))
        have HUd := Lib.hid ((HU6.out.st hst5).fr ((Fr.refl (fun _ => False) wr).drew) (fun _ _ => id))
        have HYd := Lib.hid ((HY6.out.st hst5).fr ((Fr.refl (fun _ => False) wr).drew) (fun _ _ => id))
        have hstd := hst5.trans (St.of lo ((Fr.refl (fun _ => False) wr).drew))
        obtain ⟨g, m, base, v, gs, ms, gD, gQ, hN⟩ := hd.open
        have hS := ref10_Same (c := c) (n := n) (c' := c') (n' := n') (cr := cr) (cw := cw) (cr' := cr') (cw' := cw') HRd.out HWd.out HUd.out HYd.out (by have := rises_len ht'.out.2.2.2.2.2.1; omega) (by have := rises_len ht'.out.2.2.2.2.2.2; omega)
        rw [decide_eq_true hs] at hS
        have hS := Lib.hid hS
        clear hs
        refine wp_region_noPanic ?_
        refine wp_region_held_drew (S := (fun w' => w'.cell? ⟨gw, 0, none⟩ = some (.pointer (some ⟨g, 0, none⟩)) ∧ w'.cell? ⟨gw, 1, none⟩ = some (.pointer (some ⟨gs, 0, none⟩)) ∧ w'.cell? ⟨x, 0, none⟩ = some (.int .i64 c) ∧ w'.cell? ⟨x, 1, none⟩ = some (.int .i64 n) ∧ w'.cell? ⟨x, 2, none⟩ = some (.slice A R.length cr) ∧ w'.cell? ⟨x, 3, none⟩ = some (.slice B W.length cw) ∧ w'.cell? ⟨x + 1, 0, none⟩ = some (.int .i64 c') ∧ w'.cell? ⟨x + 1, 1, none⟩ = some (.int .i64 n') ∧ w'.cell? ⟨x + 1, 2, none⟩ = some (.slice A' R'.length cr') ∧ w'.cell? ⟨x + 1, 3, none⟩ = some (.slice B' W'.length cw'))) (by kernel_rfl) (⟨hN.b, hN.s, hBd.cell 0, hBd.cell 1, hBd.cell 2, hBd.cell 3, hCd.cell 0, hCd.cell 1, hCd.cell 2, hCd.cell 3⟩) (fun hHeld => ?_)
        refine wpAnyH_takeAt (i := 0) (v := ?va0) (some 72) rfl rfl (by kernel_rfl) (by kernel_rfl) (by kernel_rfl) (fun _ _ _ h => h) (Or.inl ⟨by rfl, ?hya0⟩) (by assumption) ?resta0
        case hya0 => (intro w hSw; (try dsimp only at hSw); go_simp; all_goals with_reducible rfl)
        simp only [Act.put, List.setIfInBounds_toArray, List.set_cons_zero, List.set_cons_succ]
        refine wpAnyH_takeAt (i := 1) (v := ?va1) (some 73) rfl rfl (by kernel_rfl) (by kernel_rfl) (by kernel_rfl) (fun _ _ _ h => h) (Or.inl ⟨by rfl, ?hya1⟩) (by assumption) ?resta1
        case hya1 => (intro w hSw; (try dsimp only at hSw); go_simp; all_goals with_reducible rfl)
        simp only [Act.put, List.setIfInBounds_toArray, List.set_cons_zero, List.set_cons_succ]
        refine wpAnyH_takeAt (i := 2) (v := ?va2) (some 74) rfl rfl (by kernel_rfl) (by kernel_rfl) (by kernel_rfl) (fun _ _ _ h => h) (Or.inl ⟨by rfl, ?hya2⟩) (by assumption) ?resta2
        case hya2 => (intro w hSw; (try dsimp only at hSw); go_simp; all_goals with_reducible rfl)
        simp only [Act.put, List.setIfInBounds_toArray, List.set_cons_zero, List.set_cons_succ]
        refine wpAnyH_takeAt (i := 3) (v := ?va3) (some 75) rfl rfl (by kernel_rfl) (by kernel_rfl) (by kernel_rfl) (fun _ _ _ h => h) (Or.inl ⟨by rfl, ?hya3⟩) (by assumption) ?resta3
        case hya3 => (intro w hSw; (try dsimp only at hSw); go_simp; all_goals with_reducible rfl)
        simp only [Act.put, List.setIfInBounds_toArray, List.set_cons_zero, List.set_cons_succ]
        refine wpAnyH_takeAt (i := 4) (v := ?va4) (some 76) rfl rfl (by kernel_rfl) (by kernel_rfl) (by kernel_rfl) (fun _ _ _ h => h) (Or.inl ⟨by rfl, ?hya4⟩) (by assumption) ?resta4
        case hya4 => (intro w hSw; (try dsimp only at hSw); go_simp; all_goals with_reducible rfl)
        simp only [Act.put, List.setIfInBounds_toArray, List.set_cons_zero, List.set_cons_succ]
        refine wpAnyH_takeAt (i := 5) (v := ?va5) (some 77) rfl rfl (by kernel_rfl) (by kernel_rfl) (by kernel_rfl) (fun _ _ _ h => h) (Or.inl ⟨by rfl, ?hya5⟩) (by assumption) ?resta5
        case hya5 => (intro w hSw; (try dsimp only at hSw); go_simp; all_goals with_reducible rfl)
        simp only [Act.put, List.setIfInBounds_toArray, List.set_cons_zero, List.set_cons_succ]
        refine wpAnyH_takeAt (i := 6) (v := ?va6) (some 78) rfl rfl (by kernel_rfl) (by kernel_rfl) (by kernel_rfl) (fun _ _ _ h => h) (Or.inl ⟨by rfl, ?hya6⟩) (by assumption) ?resta6
        case hya6 => (intro w hSw; (try dsimp only at hSw); go_simp; all_goals with_reducible rfl)
        simp only [Act.put, List.setIfInBounds_toArray, List.set_cons_zero, List.set_cons_succ]
        refine wpAnyH_ready (rs := [7]) (by kernel_rfl) (by simp) ?_
        refine AllReadyH.cons rfl (fun K hK => ?_) AllReadyH.nil
        go_simp
        go_at_call 13
        refine hS.out.mono ?_
        rintro e w7 ⟨rfl, hf7⟩
        try go_wp2_with fail
        refine hK.out _ _ (⟨hf7.cell_some hN.b id, hf7.cell_some hN.s id, hf7.cell_some (hBd.cell 0) id, hf7.cell_some (hBd.cell 1) id, hf7.cell_some (hBd.cell 2) id, hf7.cell_some (hBd.cell 3) id, hf7.cell_some (hCd.cell 0) id, hf7.cell_some (hCd.cell 1) id, hf7.cell_some (hCd.cell 2) id, hf7.cell_some (hCd.cell 3) id⟩) (fun hHeld => ?_)
        clear hK K
        refine wpAnyH_takeAt (i := 8) (v := ?va8) (some 80) rfl rfl (by kernel_rfl) (by kernel_rfl) (by kernel_rfl) (fun _ _ _ h => h) (Or.inl ⟨by rfl, ?hya8⟩) (by assumption) ?resta8
        case hya8 => (intro w hSw; (try dsimp only at hSw); go_simp; all_goals with_reducible rfl)
        simp only [Act.put, List.setIfInBounds_toArray, List.set_cons_zero, List.set_cons_succ]
        refine wpAnyH_takeAt (i := 9) (v := ?va9) (some 81) rfl rfl (by kernel_rfl) (by kernel_rfl) (by kernel_rfl) (fun _ _ _ h => h) (Or.inl ⟨by rfl, ?hya9⟩) (by assumption) ?resta9
        case hya9 => (intro w hSw; (try dsimp only at hSw); go_simp; all_goals with_reducible rfl)
        simp only [Act.put, List.setIfInBounds_toArray, List.set_cons_zero, List.set_cons_succ]
        refine wpAnyH_takeAt (i := 10) (v := ?va10) (some 82) rfl rfl (by kernel_rfl) (by kernel_rfl) (by kernel_rfl) (fun _ _ _ h => h) (Or.inl ⟨by rfl, ?hya10⟩) (by assumption) ?resta10
        case hya10 => (intro w hSw; (try dsimp only at hSw); go_simp; all_goals with_reducible rfl)
        simp only [Act.put, List.setIfInBounds_toArray, List.set_cons_zero, List.set_cons_succ]
        refine wpAnyH_takeAt (i := 11) (v := ?va11) (some 83) rfl rfl (by kernel_rfl) (by kernel_rfl) (by kernel_rfl) (fun _ _ _ h => h) (Or.inl ⟨by rfl, ?hya11⟩) (by assumption) ?resta11
        case hya11 => (intro w hSw; (try dsimp only at hSw); go_simp; all_goals with_reducible rfl)
        simp only [Act.put, List.setIfInBounds_toArray, List.set_cons_zero, List.set_cons_succ]
        refine wpAnyH_takeAt (i := 12) (v := ?va12) (some 84) rfl rfl (by kernel_rfl) (by kernel_rfl) (by kernel_rfl) (fun _ _ _ h => h) (Or.inl ⟨by rfl, ?hya12⟩) (by assumption) ?resta12
        case hya12 => (intro w hSw; (try dsimp only at hSw); go_simp; all_goals with_reducible rfl)
        simp only [Act.put, List.setIfInBounds_toArray, List.set_cons_zero, List.set_cons_succ]
        refine wpAnyH_takeAt (i := 13) (v := ?va13) (some 85) rfl rfl (by kernel_rfl) (by kernel_rfl) (by kernel_rfl) (fun _ _ _ h => h) (Or.inl ⟨by rfl, ?hya13⟩) (by assumption) ?resta13
        case hya13 => (intro w hSw; (try dsimp only at hSw); go_simp; all_goals with_reducible rfl)
        simp only [Act.put, List.setIfInBounds_toArray, List.set_cons_zero, List.set_cons_succ]
        refine wpAnyH_takeAt (i := 14) (v := ?va14) (some 86) rfl rfl (by kernel_rfl) (by kernel_rfl) (by kernel_rfl) (fun _ _ _ h => h) (Or.inl ⟨by rfl, ?hya14⟩) (by assumption) ?resta14
        case hya14 => (intro w hSw; (try dsimp only at hSw); go_simp; all_goals with_reducible rfl)
        simp only [Act.put, List.setIfInBounds_toArray, List.set_cons_zero, List.set_cons_succ]
        refine wpAnyH_takeAt (i := 15) (some 87) rfl rfl (by kernel_rfl) (by kernel_rfl) (by kernel_rfl) (fun _ _ _ h => h) (Or.inr ⟨by rfl, rfl⟩) (by assumption) ?_
        simp only [Act.put, List.setIfInBounds_toArray, List.set_cons_zero, List.set_cons_succ]
        refine wpAnyH_takeAt (i := 16) (some 88) rfl rfl (by kernel_rfl) (by kernel_rfl) (by kernel_rfl) (fun _ _ _ h => h) (Or.inr ⟨by rfl, rfl⟩) (by assumption) ?_
        simp only [Act.put, List.setIfInBounds_toArray, List.set_cons_zero, List.set_cons_succ]
        refine wpAnyH_takeAt (i := 17) (some 89) rfl rfl (by kernel_rfl) (by kernel_rfl) (by kernel_rfl) (fun _ _ _ h => h) (Or.inr ⟨by rfl, rfl⟩) (by assumption) ?_
        simp only [Act.put, List.setIfInBounds_toArray, List.set_cons_zero, List.set_cons_succ]
        refine wpAnyH_takeAt (i := 18) (some 90) rfl rfl (by kernel_rfl) (by kernel_rfl) (by kernel_rfl) (fun _ _ _ h => h) (Or.inr ⟨by rfl, rfl⟩) (by assumption) ?_
        simp only [Act.put, List.setIfInBounds_toArray, List.set_cons_zero, List.set_cons_succ]
        refine wpAnyH_takeAt (i := 19) (some 91) rfl rfl (by kernel_rfl) (by kernel_rfl) (by kernel_rfl) (fun _ _ _ h => h) (Or.inr ⟨by rfl, rfl⟩) (by assumption) ?_
        simp only [Act.put, List.setIfInBounds_toArray, List.set_cons_zero, List.set_cons_succ]
        refine wpAnyH_takeAt (i := 20) (some 92) rfl rfl (by kernel_rfl) (by kernel_rfl) (by kernel_rfl) (fun _ _ _ h => h) (Or.inr ⟨by rfl, rfl⟩) (by assumption) ?_
        simp only [Act.put, List.setIfInBounds_toArray, List.set_cons_zero, List.set_cons_succ]
        refine wpAnyH_takeAt (i := 21) (some 93) rfl rfl (by kernel_rfl) (by kernel_rfl) (by kernel_rfl) (fun _ _ _ h => h) (Or.inr ⟨by rfl, rfl⟩) (by assumption) ?_
        simp only [Act.put, List.setIfInBounds_toArray, List.set_cons_zero, List.set_cons_succ]
        refine wpAnyH_takeAt (i := 22) (some 94) rfl rfl (by kernel_rfl) (by kernel_rfl) (by kernel_rfl) (fun _ _ _ h => h) (Or.inr ⟨by rfl, rfl⟩) (by assumption) ?_
        simp only [Act.put, List.setIfInBounds_toArray, List.set_cons_zero, List.set_cons_succ]
        refine wpAnyH_takeAt (i := 23) (some 95) rfl rfl (by kernel_rfl) (by kernel_rfl) (by kernel_rfl) (fun _ _ _ h => h) (Or.inr ⟨by rfl, rfl⟩) (by assumption) ?_
        simp only [Act.put, List.setIfInBounds_toArray, List.set_cons_zero, List.set_cons_succ]
        refine wpAnyH_takeAt (i := 24) (some 96) rfl rfl (by kernel_rfl) (by kernel_rfl) (by kernel_rfl) (fun _ _ _ h => h) (Or.inr ⟨by rfl, rfl⟩) (by assumption) ?_
        simp only [Act.put, List.setIfInBounds_toArray, List.set_cons_zero, List.set_cons_succ]
        refine wpAnyH_takeAt (i := 25) (some 97) rfl rfl (by kernel_rfl) (by kernel_rfl) (by kernel_rfl) (fun _ _ _ h => h) (Or.inr ⟨by rfl, rfl⟩) (by assumption) ?_
        simp only [Act.put, List.setIfInBounds_toArray, List.set_cons_zero, List.set_cons_succ]
        refine wpAnyH_takeAt (i := 26) (some 98) rfl rfl (by kernel_rfl) (by kernel_rfl) (by kernel_rfl) (fun _ _ _ h => h) (Or.inr ⟨by rfl, rfl⟩) (by assumption) ?_
        simp only [Act.put, List.setIfInBounds_toArray, List.set_cons_zero, List.set_cons_succ]
        refine wpAnyH_takeAt (i := 27) (v := ?va27) (some 99) rfl rfl (by kernel_rfl) (by kernel_rfl) (by kernel_rfl) (fun _ _ _ h => h) (Or.inl ⟨by rfl, ?hya27⟩) (by assumption) ?resta27
        case hya27 => (intro w hSw; (try dsimp only at hSw); go_simp; all_goals with_reducible rfl)
        simp only [Act.put, List.setIfInBounds_toArray, List.set_cons_zero, List.set_cons_succ]
        refine wpAnyH_takeAt (i := 28) (v := ?va28) (some 100) rfl rfl (by kernel_rfl) (by kernel_rfl) (by kernel_rfl) (fun _ _ _ h => h) (Or.inl ⟨by rfl, ?hya28⟩) (by assumption) ?resta28
        case hya28 => (intro w hSw; (try dsimp only at hSw); go_simp; all_goals with_reducible rfl)
        simp only [Act.put, List.setIfInBounds_toArray, List.set_cons_zero, List.set_cons_succ]
        refine wpAnyH_takeAt (i := 29) (v := ?va29) (some 8) rfl rfl (by kernel_rfl) (by kernel_rfl) (by kernel_rfl) (fun _ _ _ h => h) (Or.inl ⟨by rfl, ?hya29⟩) (by assumption) ?resta29
        case hya29 => (intro w hSw; (try dsimp only at hSw); go_simp; all_goals with_reducible rfl)
        simp only [Act.put, List.setIfInBounds_toArray, List.set_cons_zero, List.set_cons_succ]
        refine wpAnyH_done (by kernel_rfl) ?_ _
        refine NoPanic.normal ?_
        go_wp2_with fail
        go_ret
        exact ⟨rfl, HFIN.out _ (hstd.trans (St.of lo hf7))⟩
      · have hxy : xs ≠ ys := fun e => hs (txnB_inj ht'.out hu'.out (by rw [hxs.out, hys.out]; exact e))
        have hE0 : E = 1 := HE.out.trans (if_neg hxy)
        clear hxy
        subst hE0
        have HNE : Hid ((digI L ys : Int) ≠ 0) := by show _ ≠ _; rw [HI.out]; decide
        go_upto_region 12 with fail
        have hBd : Blk wr.drew x 25 #[.int .i64 c, .int .i64 n, .slice A R.length cr, .slice B W.length cw] := hB6.fr (hst5.trans (St.of lo ((Fr.refl (fun _ => False) wr).drew))).fr (by have := HX.out; omega)
        have hCd : Blk wr.drew (x + 1) 25 #[.int .i64 c', .int .i64 n', .slice A' R'.length cr', .slice B' W'.length cw'] := hC6.fr (hst5.trans (St.of lo ((Fr.refl (fun _ => False) wr).drew))).fr (by have := HX.out; omega)
        have hd := h5.keep ((Fr.refl (fun _ => False) wr).drew)
        have HRd := Lib.hid ((HR6.out.st hst5).fr ((Fr.refl (fun _ => False) wr).drew) (fun _ _ => id))
        have HWd := Lib.hid ((HW6.out.st hst5).fr ((Fr.refl (fun _ => False) wr).drew) (fun _ _ => id))
        have HUd := Lib.hid ((HU6.out.st hst5).fr ((Fr.refl (fun _ => False) wr).drew) (fun _ _ => id))
        have HYd := Lib.hid ((HY6.out.st hst5).fr ((Fr.refl (fun _ => False) wr).drew) (fun _ _ => id))
        have hstd := hst5.trans (St.of lo ((Fr.refl (fun _ => False) wr).drew))
        obtain ⟨g, m, base, v, gs, ms, gD, gQ, hN⟩ := hd.open
        have hS := ref10_Same (c := c) (n := n) (c' := c') (n' := n') (cr := cr) (cw := cw) (cr' := cr') (cw' := cw') HRd.out HWd.out HUd.out HYd.out (by have := rises_len ht'.out.2.2.2.2.2.1; omega) (by have := rises_len ht'.out.2.2.2.2.2.2; omega)
        rw [decide_eq_false hs] at hS
        have hS := Lib.hid hS
        have hO : ∀ w7, Fr (fun _ => False) wr.drew w7 → Calls Tryz.prog 10 #[.pointer (some ⟨g, 0, none⟩), .pointer (some ⟨gs, 0, none⟩), .int .i64 kk, .agg #[.int .i64 c', .int .i64 n', .slice A' R'.length cr', .slice B' W'.length cw']] w7 (BSStep wr.drew g m base v (outL kk L SL ys) gs ms SL (.int .i64 0)) := by
          intro w7 hf
          have hO := client_Outcome_ok (cr := cr') (cw := cw') (hN.bs.keep hf) (Nat.le_trans hN.base_le hf.size) (by have := H1.out; have := HLE.out; omega) kk HK.out.1 (HUd.out.fr hf (fun _ _ => id)) (HYd.out.fr hf (fun _ _ => id)) hu'.out
          rw [hys.out, HP5.out.out_other HK.out.1 HNE.out (by have := H1.out; have := HLE.out; omega)] at hO
          exact hO.mono fun _ _ hs => hs.before hf
        have hO := Lib.hid hO
        have hG := Lib.hid (hd.good.outStep (SL := SL) kk hyl.out)
        clear hs hd
        go_region_held3 (fun w' => w'.cell? ⟨gw, 0, none⟩ = some (.pointer (some ⟨g, 0, none⟩)) ∧ w'.cell? ⟨gw, 1, none⟩ = some (.pointer (some ⟨gs, 0, none⟩)) ∧ w'.cell? ⟨x, 0, none⟩ = some (.int .i64 c) ∧ w'.cell? ⟨x, 1, none⟩ = some (.int .i64 n) ∧ w'.cell? ⟨x, 2, none⟩ = some (.slice A R.length cr) ∧ w'.cell? ⟨x, 3, none⟩ = some (.slice B W.length cw) ∧ w'.cell? ⟨x + 1, 0, none⟩ = some (.int .i64 c') ∧ w'.cell? ⟨x + 1, 1, none⟩ = some (.int .i64 n') ∧ w'.cell? ⟨x + 1, 2, none⟩ = some (.slice A' R'.length cr') ∧ w'.cell? ⟨x + 1, 3, none⟩ = some (.slice B' W'.length cw')) (first | exact ⟨(lens_keep hN hst8).1, (lens_keep hN hst8).2, hB8.cell 0, hB8.cell 1, hB8.cell 2, hB8.cell 3, hC8.cell 0, hC8.cell 1, hC8.cell 2, hC8.cell 3⟩ | exact ⟨hf7.cell_some hN.b id, hf7.cell_some hN.s id, hf7.cell_some (hBd.cell 0) id, hf7.cell_some (hBd.cell 1) id, hf7.cell_some (hBd.cell 2) id, hf7.cell_some (hBd.cell 3) id, hf7.cell_some (hCd.cell 0) id, hf7.cell_some (hCd.cell 1) id, hf7.cell_some (hCd.cell 2) id, hf7.cell_some (hCd.cell 3) id⟩ | exact ⟨hN.b, hN.s, hBd.cell 0, hBd.cell 1, hBd.cell 2, hBd.cell 3, hCd.cell 0, hCd.cell 1, hCd.cell 2, hCd.cell 3⟩) (first | (go_at_call 10; refine (hO.out _ hf7).mono ?_; rintro e w8 hs8; obtain ⟨rfl, h8, hst8⟩ := hN.step hs8 hG.out (outL_prefix _ _ _ _); have hB8 := hst8.blk _ _ _ hBd (by decide); have hC8 := hst8.blk _ _ _ hCd (by decide)) | (go_at_call 13; refine hS.out.mono ?_; rintro e w7 ⟨rfl, hf7⟩))
        go_wp2_with fail
        go_ret
        exact ⟨rfl, HFIN.out _ (hstd.trans hst8)⟩
end Go.Proofs.YtcfanacfjcgnbaaGreatDoor
