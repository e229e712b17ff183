/- cohortlaw20: ClientWord: the walk. -/
import Derived.Test.YtcfanacfjcgnbaaDoorHead20
namespace Go.Proofs.YtcfanacfjcgnbaaDoor
open Go Go.RowKit
theorem signErr_nil (c : Int) : signErr c 0 [] = if signBad c 0 = true then some ([((⟨#[115, 101, 97, 108, 115]⟩ : ByteArray), c)], 1) else none := by
  unfold signErr
  split
  · rfl
  · simp
theorem sayI_nil (s : SayD) (h : OkSay s) : sayI [] s = 0 := by rw [sayI, if_pos h, digI_nil]; rfl
theorem bad_client {who : Int} (h : ¬ (0 ≤ who ∧ who < 16)) : signBad (clientOf who) 0 = true := by
  have : clientOf who = -1 := by unfold clientOf; rw [if_pos (by omega)]
  rw [this]
  decide
theorem good_client {who : Int} (h0 : 0 ≤ who) (h1 : who < 16) : signBad (clientOf who) 0 = false ∧ clientOf who = who := by
  have e : clientOf who = who := by unfold clientOf; rw [if_neg (by omega)]
  refine ⟨?_, e⟩
  rw [e]
  unfold signBad
  rw [e]
  simp only [decide_eq_false_iff_not]
  omega
theorem word_good {who : Int} {s : SayD} (h : OkSay s) (h0 : 0 ≤ who) (h1 : who < 16) : wordI who [] [] s = 0 ∧ wordO who [] [] s = none ∧ wordS who [] [] s = [(who, 0)] := by
  obtain ⟨g1, g2⟩ := good_client h0 h1
  unfold wordI wordO wordS
  rw [if_pos h, if_pos h, if_pos h, sayI_nil s h]
  unfold sgnI
  rw [signErr_nil, g1]
  refine ⟨rfl, rfl, ?_⟩
  unfold signL
  rw [g1, g2]
  simp
theorem word_bad {who : Int} {s : SayD} (h : ¬ (0 ≤ who ∧ who < 16 ∧ OkSay s)) : wordI who [] [] s = -1 ∧ (∃ q, wordO who [] [] s = some q) ∧ wordS who [] [] s = [] := by
  unfold wordI wordO wordS
  by_cases hs : OkSay s
  · have hb := bad_client (who := who) (fun e => h ⟨e.1, e.2, hs⟩)
    rw [if_pos hs, if_pos hs, if_pos hs, sayI_nil s hs]
    unfold sgnI
    rw [signErr_nil, hb]
    refine ⟨rfl, ⟨_, rfl⟩, ?_⟩
    unfold signL
    rw [hb]
    rfl
  · rw [if_neg hs, if_neg hs, if_neg hs]
    exact ⟨rfl, ⟨_, rfl⟩, rfl⟩
theorem wrap64_u8 {o m : Int} (h0 : 0 ≤ o) (h1 : 0 < m) (h2 : m ≤ 256) : 0 ≤ wrap64 (o.tmod m) ∧ wrap64 (o.tmod m) < m := by
  rw [Int.tmod_eq_emod_of_nonneg h0]
  have a := Int.emod_nonneg o (show m ≠ 0 by omega)
  have b := Int.emod_lt_of_pos o h1
  unfold wrap64
  omega
set_option maxRecDepth 100000 in
set_option maxHeartbeats 4000000 in
theorem word_walk {w : World} (hL : Laid w) (who : Int) (hwho : -9223372036854775808 ≤ who ∧ who ≤ 9223372036854775807) (s : SayD) (o : Int) (ho : 0 ≤ o ∧ o ≤ 255) :
    Calls Tryd.prog 4 #[.int .i64 who, .agg #[.int .i64 s.kind, .int .i64 s.txn, .bool s.yes, .string s.from_, .string s.to_, .int .i64 s.epoch, .int .i64 s.shard, .int .i64 s.target, .int .i64 s.root], .int .u8 o] w (Bool1 w true) := by
  obtain ⟨kind, txn, yes, ff, tt, ep, sh, tg, rt⟩ := s
  dsimp only
  have hB0 := Blk.new w 34 #[.int .i64 kind, .int .i64 txn, .bool yes, .string ff, .string tt, .int .i64 ep, .int .i64 sh, .int .i64 tg, .int .i64 rt]
  have hf0 : Fr (fun _ => False) w (w.alloc (Obj.cells #[.int .i64 kind, .int .i64 txn, .bool yes, .string ff, .string tt, .int .i64 ep, .int .i64 sh, .int .i64 tg, .int .i64 rt] 34)) := (Fr.refl _ _).alloc _
  have hz0 : w.heap.size < (w.alloc (Obj.cells #[.int .i64 kind, .int .i64 txn, .bool yes, .string ff, .string tt, .int .i64 ep, .int .i64 sh, .int .i64 tg, .int .i64 rt] 34)).heap.size := by simp
  have HW := Lib.hid hwho
  have HO := Lib.hid ho
  clear hwho ho
  go_enter Tryd.func4, Tryd.ntmps4
  go_wp2_with fail
  generalize (w.alloc (Obj.cells #[.int .i64 kind, .int .i64 txn, .bool yes, .string ff, .string tt, .int .i64 ep, .int .i64 sh, .int .i64 tg, .int .i64 rt] 34)) = w0 at *
  refine (law20_head (hL.fr hf0 id)).mono ?_
  rintro e w1 ⟨rfl, hf1⟩
  go_wp2_with fail
  refine (wp_Start _).mono ?_
  rintro e w2 ⟨gw, rfl, hgw, h2, hf2⟩
  have hf02 := (hf0.then_ hf1).then_ hf2
  have hB2 := (hB0.fr hf1 id).fr hf2 id
  have HX : Hid (w.heap.size < w1.heap.size) := by have := hf1.size; show _ < _; omega
  generalize w1.heap.size = lo at *
  generalize hxw : w.heap.size = x at *
  have HXW := Lib.hid hxw
  have c0 := hB2.cell 0
  have c1 := hB2.cell 1
  have c2 := hB2.cell 2
  have c3 := hB2.cell 3
  have c4 := hB2.cell 4
  have c5 := hB2.cell 5
  have c6 := hB2.cell 6
  have c7 := hB2.cell 7
  have c8 := hB2.cell 8
  clear hL hf0 hf1 hf2 hB0 hz0 hgw hxw
  by_cases q1 : (1000 : Int) < ff.size
  · go_wp2_with fail
    go_ret
    exact ⟨rfl, hf02⟩
  by_cases q2 : (1000 : Int) < tt.size
  · go_wp2_with fail
    go_ret
    exact ⟨rfl, hf02⟩
  have h2 : WP w2.drew lo gw [] [] 0 := h2.keep ((Fr.refl (fun _ => False) w2).drew)
  have hB2 : Blk w2.drew x 34 #[.int .i64 kind, .int .i64 txn, .bool yes, .string ff, .string tt, .int .i64 ep, .int .i64 sh, .int .i64 tg, .int .i64 rt] := hB2
  have hf02 : Fr (fun _ => False) w w2.drew := hf02.drew
  have hG := Lib.hid (h2.good.say ⟨kind, txn, yes, ff, tt, ep, sh, tg, rt⟩)
  go_upto_region 5 with fail
  clear q1 q2 c0 c1 c2 c3 c4 c5 c6 c7 c8
  obtain ⟨g, m, base, v, gs, ms, gD, gQ, hN⟩ := h2.open
  have hC := client_Word hN.bs hN.base_le (by decide) who HW.out.2 kind txn yes ff tt ep sh tg rt
  clear h2
  by_cases hgood : 0 ≤ who ∧ who < 16 ∧ OkSay ⟨kind, txn, yes, ff, tt, ep, sh, tg, rt⟩
  · obtain ⟨p0, p1, hok⟩ := hgood
    obtain ⟨e1, e2, e3⟩ := word_good hok p0 p1
    rw [e1, e2, e3] at hC
    have hC : Calls Tryd.prog 12 #[.pointer (some ⟨g, 0, none⟩), .pointer (some ⟨gs, 0, none⟩), .int .i64 who, .agg #[.int .i64 kind, .int .i64 txn, .bool yes, .string ff, .string tt, .int .i64 ep, .int .i64 sh, .int .i64 tg, .int .i64 rt]] w2.drew (BSStep w2.drew g m base v (sayL [] ⟨kind, txn, yes, ff, tt, ep, sh, tg, rt⟩) gs ms [(who, 0)] (.tuple #[.int .i64 0, .nilIface])) := hC
    have hC := Lib.hid hC
    have HP0 := Lib.hid p0
    have HP1 := Lib.hid p1
    clear e1 e2 e3 p0 p1
    go_region_held3 (fun w' => w'.cell? ⟨gw, 0, none⟩ = some (.pointer (some ⟨g, 0, none⟩)) ∧ w'.cell? ⟨gw, 1, none⟩ = some (.pointer (some ⟨gs, 0, none⟩)) ∧ w'.cell? ⟨x, 0, none⟩ = some (.int .i64 kind) ∧ w'.cell? ⟨x, 1, none⟩ = some (.int .i64 txn) ∧ w'.cell? ⟨x, 2, none⟩ = some (.bool yes) ∧ w'.cell? ⟨x, 3, none⟩ = some (.string ff) ∧ w'.cell? ⟨x, 4, none⟩ = some (.string tt) ∧ w'.cell? ⟨x, 5, none⟩ = some (.int .i64 ep) ∧ w'.cell? ⟨x, 6, none⟩ = some (.int .i64 sh) ∧ w'.cell? ⟨x, 7, none⟩ = some (.int .i64 tg) ∧ w'.cell? ⟨x, 8, none⟩ = some (.int .i64 rt)) (first | exact ⟨(lens_keep hN hst3).1, (lens_keep hN hst3).2, hB3.cell 0, hB3.cell 1, hB3.cell 2, hB3.cell 3, hB3.cell 4, hB3.cell 5, hB3.cell 6, hB3.cell 7, hB3.cell 8⟩ | exact ⟨hN.b, hN.s, hB2.cell 0, hB2.cell 1, hB2.cell 2, hB2.cell 3, hB2.cell 4, hB2.cell 5, hB2.cell 6, hB2.cell 7, hB2.cell 8⟩) (first | (go_at_call 12; refine hC.out.mono ?_; rintro e w3 hs3; obtain ⟨rfl, h3, hst3⟩ := hN.step hs3 hG.out List.nil_prefix; have hB3 := hst3.blk _ _ _ hB2 (by decide)))
    rename_i hH
    clear hH
    have HF3 : Hid (Fr (fun _ => False) w w3) := hf02.trans hst3.fr (fun k hk e => by have := HX.out; have := HXW.out; omega)
    clear hN hC hG hB2 hf02 hst3
    obtain ⟨g, m, base, v, gs, ms, gD, gQ, hN⟩ := h3.open
    have hs := Lib.hid hN.bs.seals
    have b1 := hN.s
    clear hN h3
    have c0 := hB3.cell 0
    have c1 := hB3.cell 1
    have c2 := hB3.cell 2
    have c3 := hB3.cell 3
    have c4 := hB3.cell 4
    have c5 := hB3.cell 5
    have c6 := hB3.cell 6
    have c7 := hB3.cell 7
    have c8 := hB3.cell 8
    have p0 := HP0.out
    have p1 := HP1.out
    go_upto_region 10 with (go_at_call 13; refine (ref11_Right1 _ kind txn yes ff tt ep sh tg rt).mono ?_; rintro e w4 ⟨rfl, hf4⟩; rw [decide_eq_true hok])
    obtain ⟨kk, hkk⟩ : ∃ kk, Hid (wrap64 (o.tmod 16) = kk) := ⟨_, rfl⟩
    have HK : Hid (0 ≤ kk ∧ kk < 16) := by have := wrap64_u8 HO.out.1 (m := 16) (by decide) (by decide); rw [hkk.out] at this; exact this
    rw [hkk.out]
    have b4 := hf4.cell_some b1 id
    have hs4 := Lib.hid (hs.out.fr hf4 id id)
    have HF4 := Lib.hid (HF3.out.then_ hf4)
    clear c0 c1 c2 c3 c4 c5 c6 c7 c8 b1 hs HF3 hf4 hB3 p0 p1 hok
    have hm1 : (who, (0 : Int)) ∈ [(who, (0 : Int))] := List.mem_singleton.2 rfl
    by_cases hkw : kk = who
    · rw [hkw]
      have HM2 := Lib.hid hm1
      have HM1 := Lib.hid hm1
      clear hm1 hkw
      go_wp2_with (first
        | (go_at_call 14; refine (seals_Many (hs4.out.fr (hf5.then_ hf6) id id)).mono ?_; rintro e w7 ⟨rfl, rfl⟩)
        | (go_at_call 15; refine (seals_Signed (hs4.out.fr hf5 id id) who 0).mono ?_; rintro e w6 ⟨rfl, hf6⟩; rw [decide_eq_true HM2.out]; have b6 := hf6.cell_some b5 id)
        | (go_at_call 15; refine (seals_Signed hs4.out who 0).mono ?_; rintro e w5 ⟨rfl, hf5⟩; rw [decide_eq_true HM1.out]; have b5 := hf5.cell_some b4 id))
      go_ret
      exact ⟨rfl, (HF4.out.then_ hf5).then_ hf6⟩
    · have hm2 : (kk, (0 : Int)) ∉ [(who, (0 : Int))] := by rw [List.mem_singleton]; exact fun e => hkw (Prod.mk.inj e).1
      have HM2 := Lib.hid hm2
      have HM1 := Lib.hid hm1
      clear hm1 hm2 HK
      go_wp2_with (first
        | (go_at_call 14; refine (seals_Many (hs4.out.fr (hf5.then_ hf6) id id)).mono ?_; rintro e w7 ⟨rfl, rfl⟩)
        | (go_at_call 15; refine (seals_Signed (hs4.out.fr hf5 id id) kk 0).mono ?_; rintro e w6 ⟨rfl, hf6⟩; rw [decide_eq_false HM2.out]; have b6 := hf6.cell_some b5 id)
        | (go_at_call 15; refine (seals_Signed hs4.out who 0).mono ?_; rintro e w5 ⟨rfl, hf5⟩; rw [decide_eq_true HM1.out]; have b5 := hf5.cell_some b4 id))
      go_ret
      exact ⟨by show Ending.returned (.bool (!(kk == who))) = _; rw [show (kk == who) = false from by simp [hkw]]; rfl, (HF4.out.then_ hf5).then_ hf6⟩
  · obtain ⟨e1, ⟨q, e2⟩, e3⟩ := word_bad hgood
    obtain ⟨et, ev, hev⟩ := errO_some q
    rw [e1, e2, e3, hev] at hC
    have hC : Calls Tryd.prog 12 #[.pointer (some ⟨g, 0, none⟩), .pointer (some ⟨gs, 0, none⟩), .int .i64 who, .agg #[.int .i64 kind, .int .i64 txn, .bool yes, .string ff, .string tt, .int .i64 ep, .int .i64 sh, .int .i64 tg, .int .i64 rt]] w2.drew (BSStep w2.drew g m base v (sayL [] ⟨kind, txn, yes, ff, tt, ep, sh, tg, rt⟩) gs ms [] (.tuple #[.int .i64 (-1), .iface et ev])) := hC
    have hC := Lib.hid hC
    have HGOOD := Lib.hid hgood
    clear e1 e2 e3 hev hgood
    go_region_held3 (fun w' => w'.cell? ⟨gw, 0, none⟩ = some (.pointer (some ⟨g, 0, none⟩)) ∧ w'.cell? ⟨gw, 1, none⟩ = some (.pointer (some ⟨gs, 0, none⟩)) ∧ w'.cell? ⟨x, 0, none⟩ = some (.int .i64 kind) ∧ w'.cell? ⟨x, 1, none⟩ = some (.int .i64 txn) ∧ w'.cell? ⟨x, 2, none⟩ = some (.bool yes) ∧ w'.cell? ⟨x, 3, none⟩ = some (.string ff) ∧ w'.cell? ⟨x, 4, none⟩ = some (.string tt) ∧ w'.cell? ⟨x, 5, none⟩ = some (.int .i64 ep) ∧ w'.cell? ⟨x, 6, none⟩ = some (.int .i64 sh) ∧ w'.cell? ⟨x, 7, none⟩ = some (.int .i64 tg) ∧ w'.cell? ⟨x, 8, none⟩ = some (.int .i64 rt)) (first | exact ⟨(lens_keep hN hst3).1, (lens_keep hN hst3).2, hB3.cell 0, hB3.cell 1, hB3.cell 2, hB3.cell 3, hB3.cell 4, hB3.cell 5, hB3.cell 6, hB3.cell 7, hB3.cell 8⟩ | exact ⟨hN.b, hN.s, hB2.cell 0, hB2.cell 1, hB2.cell 2, hB2.cell 3, hB2.cell 4, hB2.cell 5, hB2.cell 6, hB2.cell 7, hB2.cell 8⟩) (first | (go_at_call 12; refine hC.out.mono ?_; rintro e w3 hs3; obtain ⟨rfl, h3, hst3⟩ := hN.step hs3 hG.out List.nil_prefix; have hB3 := hst3.blk _ _ _ hB2 (by decide)))
    rename_i hH
    clear hH
    have HF3 : Hid (Fr (fun _ => False) w w3) := hf02.trans hst3.fr (fun k hk e => by have := HX.out; have := HXW.out; omega)
    clear hN hC hG hB2 hf02 hst3
    obtain ⟨g, m, base, v, gs, ms, gD, gQ, hN⟩ := h3.open
    have hs := Lib.hid hN.bs.seals
    have b1 := hN.s
    clear hN h3
    have c0 := hB3.cell 0
    have c1 := hB3.cell 1
    have c2 := hB3.cell 2
    have c3 := hB3.cell 3
    have c4 := hB3.cell 4
    have c5 := hB3.cell 5
    have c6 := hB3.cell 6
    have c7 := hB3.cell 7
    have c8 := hB3.cell 8
    by_cases p0 : 0 ≤ who
    · by_cases p1 : who < 16
      · have hok : ¬ OkSay ⟨kind, txn, yes, ff, tt, ep, sh, tg, rt⟩ := fun e => HGOOD.out ⟨p0, p1, e⟩
        have HOK := Lib.hid hok
        clear hok
        go_wp2_with (first
          | (go_at_call 14; refine (seals_Many (hs.out.fr hf4 id id)).mono ?_; rintro e w5 ⟨rfl, rfl⟩)
          | (go_at_call 13; refine (ref11_Right1 _ kind txn yes ff tt ep sh tg rt).mono ?_; rintro e w4 ⟨rfl, hf4⟩; rw [decide_eq_false HOK.out]; have b4 := hf4.cell_some b1 id))
        go_ret
        exact ⟨rfl, HF3.out.then_ hf4⟩
      · go_wp2_with (first
          | (go_at_call 14; refine (seals_Many hs.out).mono ?_; rintro e w5 ⟨rfl, rfl⟩))
        go_ret
        exact ⟨rfl, HF3.out⟩
    · go_wp2_with (first
        | (go_at_call 14; refine (seals_Many hs.out).mono ?_; rintro e w5 ⟨rfl, rfl⟩))
      go_ret
      exact ⟨rfl, HF3.out⟩
end Go.Proofs.YtcfanacfjcgnbaaDoor
