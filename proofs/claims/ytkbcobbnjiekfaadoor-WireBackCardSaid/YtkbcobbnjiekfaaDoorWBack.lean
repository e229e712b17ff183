/- cohortlaw02.WireBack: the walk. -/
import Derived.Test.YtkbcobbnjiekfaaDoorHead02
import Derived.Test.YtkbcobbnjiekfaaDoorWall
import Derived.Test.YtkbcobbnjiekfaaDoorSame02
namespace Go.Proofs.YtkbcobbnjiekfaaDoor
open Go Go.RowKit
set_option maxRecDepth 100000 in
set_option maxHeartbeats 1000000 in
theorem wireBack_walk {w : World} (hG0 : Laid w) {A : Option Addr} {cap : Nat} {ops : List OpD} (hr : OpRow w (fun k => k < w.heap.size) A ops) (hll : ops.length ≤ 9223372036854775807) (hok : ∀ x ∈ ops, OpOk x) :
    Calls Tryd.prog 7 #[.slice A ops.length cap] w (Fine w true) := by
  have hGb : 0 < w.heap.size := World.block_lt_of_cell? w _ hG0
  have HOK := Lib.hid hok
  have hml : ∀ x ∈ ops, x.s.length ≤ 9223372036854775807 ∧ x.l.length ≤ 9223372036854775807 ∧ x.m.length ≤ 9223372036854775807 := fun x hx => (hok x hx).1
  clear hok
  go_enter Tryd.func7, Tryd.ntmps7
  go_wp2_with fail
  refine (law02_head hG0).mono ?_
  rintro e w1 ⟨rfl, hf1⟩
  go_wp2_with fail
  refine (law02_Great (hr.fr hf1 (fun _ _ => id)) hll hml).mono ?_
  rintro e w2 ⟨⟨b, rfl, hb⟩, hf12⟩
  have hf2 := hf1.then_ hf12
  clear hf1 hf12
  cases b with
  | true =>
    clear hr hml hb
    go_wp2
    go_ret
    exact ⟨rfl, hf2⟩
  | false =>
    have HS := Lib.hid (hb rfl)
    have hf3 : Fr (fun _ => False) w (w2.alloc (Obj.cells #[.slice none 0 0, .nilIface] 28)) := hf2.alloc _
    have hW0 : WriterAt (w2.alloc (Obj.cells #[.slice none 0 0, .nilIface] 28)) w2.heap.size w2.heap.size (.slice none 0 0) [] none := ⟨Blk.new _ _ _, Own8.nil _ _⟩
    have hsz2 := hf2.size
    clear hb
    go_wp2_with fail
    go_loopw [5] (fun i wr => ∃ (k : Nat) (v : Value), k ≤ ops.length ∧ i = .int .i64 k ∧ (wall (ops.take k)).1.length ≤ 8200 * k + wts (ops.take k) ∧ WriterAt wr w2.heap.size w2.heap.size v (wall (ops.take k)).1 (wall (ops.take k)).2 ∧ Fr (fun _ => False) w wr) (fun i _ => ops.length - (intOf i).toNat)
    case atStart => exact ⟨0, _, by omega, rfl, by simp [wall], hW0, hf3⟩
    case round =>
      obtain ⟨k, v, hk, rfl, hbs, hW, hf⟩ := hrel
      by_cases hlt : k < ops.length
      · obtain ⟨x, hx⟩ : ∃ x, ops[k]? = some x := ⟨ops[k], List.getElem?_eq_getElem hlt⟩
        obtain ⟨bb, o, rfl, hFb, hop0⟩ := hr k x hx
        have hop := hop0.fr hf id (fun _ _ => id)
        obtain ⟨hs0, hl0, hm0⟩ := hml x (List.mem_of_getElem? hx)
        have HX := Lib.hid hx
        have HBS := Lib.hid hbs
        have HSB := Lib.hid (small_bound HS.out hx)
        have HLE := Lib.hid (wall_length hx hbs)
        have hsz : w2.heap.size ≤ wr.heap.size := Nat.le_of_lt hW.blk.lt
        have hA : ∀ j, j < w.heap.size → v.ownBlock ≠ some j := fun j hj e => by have := own_ge hW.own j e; omega
        have cw := hop.what
        have cn := hop.n
        obtain ⟨A1, c1, e1, r1⟩ := hop.s
        obtain ⟨A2, c2, e2, r2⟩ := hop.l
        obtain ⟨A3, c3, e3, r3⟩ := hop.m
        have hkd : Hid (kindOf x = bits .and .i64 x.what 3) := rfl
        have hTK : Hid (wall (ops.take (k + 1)) = wput (wall (ops.take k)).1 (wall (ops.take k)).2 (encO x)) := wall_take hx
        clear hr hx hop hop0 hml hbs
        generalize wall (ops.take k) = st at hTK hW HBS
        obtain ⟨bs, bad⟩ := st
        simp only at hTK hW HBS
        by_cases h0 : kindOf x = 0
        · have t0 : bits .and .i64 x.what 3 = 0 := hkd.out ▸ h0
          have HE := Lib.hid (enc0 h0)
          clear h0
          have HT := writer_Num hW hsz (by have := HBS.out; have := HSB.out; have : wt x = x.s.length + lens x.l := rfl; omega) x.n
          go_wp2_with (go_at_call 10; refine HT.mono ?_; rintro e w3 ⟨v3, rfl, hW3, hf3, hk3⟩)
          go_roundw
          case rel =>
            refine ⟨k + 1, v3, by omega, by go_num, HLE.out, ?_, hf.trans hf3 (fun j hj h => by rcases h with h | h; (· omega); (· exact absurd h (hA j hj)))⟩
            rw [hTK.out, HE.out]
            exact hW3
          case measure => simp [intOf]; omega
        · have k0 : (bits .and .i64 x.what 3 == 0) = false := by rw [← hkd.out]; simpa using h0
          by_cases h1 : kindOf x = 1
          · have t0 : bits .and .i64 x.what 3 = 1 := hkd.out ▸ h1
            have HE := Lib.hid (enc1 h1)
            clear h0 h1 k0
            by_cases hs : x.s.length ≤ 65536
            · have HT := writer_Text (cap := c1) hW hsz r1 hA (by have := HBS.out; have := HSB.out; have : wt x = x.s.length + lens x.l := rfl; omega)
              go_wp2_with (go_at_call 17; refine HT.mono ?_; rintro e w3 ⟨v3, rfl, hW3, hf3, hk3⟩)
              go_roundw
              case rel =>
                refine ⟨k + 1, v3, by omega, by go_num, HLE.out, ?_, hf.trans hf3 (fun j hj h => by rcases h with h | h; (· omega); (· exact absurd h (hA j hj)))⟩
                rw [hTK.out, HE.out]
                exact hW3
              case measure => simp [intOf]; omega
            · have HT := writer_Text (cap := c1) hW hsz r1 hA (by have := HBS.out; have := HSB.out; have : wt x = x.s.length + lens x.l := rfl; omega)
              go_wp2_with (go_at_call 17; refine HT.mono ?_; rintro e w3 ⟨v3, rfl, hW3, hf3, hk3⟩)
              go_roundw
              case rel =>
                refine ⟨k + 1, v3, by omega, by go_num, HLE.out, ?_, hf.trans hf3 (fun j hj h => by rcases h with h | h; (· omega); (· exact absurd h (hA j hj)))⟩
                rw [hTK.out, HE.out]
                exact hW3
              case measure => simp [intOf]; omega
          · have k1 : (bits .and .i64 x.what 3 == 1) = false := by rw [← hkd.out]; simpa using h1
            by_cases h2 : kindOf x = 2
            · have t0 : bits .and .i64 x.what 3 = 2 := hkd.out ▸ h2
              have HE := Lib.hid (enc2 h2)
              have hLB : bs.length + (listB x.l).length ≤ 1099511627776 ∨ 1024 < x.l.length ∨ longs x.l = true := by
                by_cases hl1 : x.l.length ≤ 1024
                · exact .inl (by rw [listB_length]; have := HBS.out; have := HSB.out; have : wt x = x.s.length + lens x.l := rfl; omega)
                · exact .inr (.inl (by omega))
              clear h0 h1 h2 k0 k1
              have HT := writer_List (cap := c2) hW hsz r2 hA (fun j hj => by omega) hl0 hLB
              go_wp2_with (go_at_call 18; refine HT.mono ?_; rintro e w3 ⟨v3, rfl, hW3, hf3, hk3⟩)
              go_roundw
              case rel =>
                refine ⟨k + 1, v3, by omega, by go_num, HLE.out, ?_, hf.trans hf3 (fun j hj h => by rcases h with h | h; (· omega); (· exact absurd h (hA j hj)))⟩
                rw [hTK.out, HE.out]
                exact hW3
              case measure => simp [intOf]; omega
            · have k2 : (bits .and .i64 x.what 3 == 2) = false := by rw [← hkd.out]; simpa using h2
              by_cases h3 : kindOf x = 3
              · have t0 : bits .and .i64 x.what 3 = 3 := hkd.out ▸ h3
                have HE := Lib.hid (enc3 h3)
                have hLB : bs.length + (numsB x.m).length ≤ 1099511627776 ∨ 1024 < x.m.length := by
                  by_cases hl1 : x.m.length ≤ 1024
                  · exact .inl (by rw [numsB_length]; have := HBS.out; have := HSB.out; have : wt x = x.s.length + lens x.l := rfl; omega)
                  · exact .inr (by omega)
                clear h0 h1 h2 h3 k0 k1 k2
                have HT := writer_Nums (cap := c3) hW hsz r3 hA hm0 hLB
                go_wp2_with (go_at_call 19; refine HT.mono ?_; rintro e w3 ⟨v3, rfl, hW3, hf3, hk3⟩)
                go_roundw
                case rel =>
                  refine ⟨k + 1, v3, by omega, by go_num, HLE.out, ?_, hf.trans hf3 (fun j hj h => by rcases h with h | h; (· omega); (· exact absurd h (hA j hj)))⟩
                  rw [hTK.out, HE.out]
                  exact hW3
                case measure => simp [intOf]; omega
              · have k3 : (bits .and .i64 x.what 3 == 3) = false := by rw [← hkd.out]; simpa using h3
                have HE := Lib.hid (enc4 h0 h1 h2 h3)
                clear h0 h1 h2 h3
                go_wp2_with fail
                go_roundw
                case rel =>
                  refine ⟨k + 1, v, by omega, by go_num, HLE.out, ?_, hf⟩
                  rw [hTK.out, HE.out, wput_nil]
                  exact hW
                case measure => simp [intOf]; omega
      · obtain rfl : k = ops.length := by omega
        rw [List.take_length] at hbs hW
        have hlen : (wall ops).1.length ≤ 200000000 := by
          have := HS.out
          unfold Small at this
          omega
        cases hbad : (wall ops).2 with
        | some a =>
          rw [hbad] at hW
          have HLEN := Lib.hid hlen
          have hnil : errW (some a) = errV [((⟨#[119, 114, 105, 116, 101]⟩ : ByteArray), (a : Int))] 2 := rfl
          obtain ⟨t, u, hu⟩ := errV_iface [((⟨#[119, 114, 105, 116, 101]⟩ : ByteArray), (a : Int))] 2
          have HC := fun {w} hG => @fault_Code w hG [((⟨#[119, 114, 105, 116, 101]⟩ : ByteArray), (a : Int))] 2
          rw [hu] at HC
          clear hr hml hbs hlen hbad
          go_wp2_with fail
          refine (writer_Bytes hW (by have := HLEN.out; omega)).mono ?_
          rintro e w4 ⟨v4, rfl, hv4, hf4⟩
          have hv4 : Own8 w4 wr.heap.size v4 [] := hv4
          have hf4' := hf.then_ hf4
          have hG4 := hG0.fr hf4' id
          obtain ⟨A4, cap4, rfl, _, _⟩ := hv4.form
          rw [hnil, hu]
          clear hu hnil hv4 hf4 hW
          go_wp2_with (go_at_call 15; refine (HC hG4).mono ?_; rintro e w5 ⟨rfl, hf5⟩)
          go_ret
          exact ⟨rfl, hf4'.then_ hf5⟩
        | none =>
          rw [hbad] at hW
          obtain ⟨hen, hfl⟩ := wall_none hbad
          rw [hfl] at hW hlen
          have HLEN := Lib.hid hlen
          have HEN := Lib.hid hen
          have hnil : errW none = .nilIface := rfl
          have H8 : Hid (Bytes8 (ops.flatMap encD)) := bytes_flat fun x hx => enc_bytes (HOK.out x hx) (hen x hx)
          clear hbs hlen hbad hen hfl
          generalize hB : ops.flatMap encD = bs at hW HLEN H8
          have HB := Lib.hid hB
          clear hB
          go_wp2_with fail
          refine (writer_Bytes hW (by have := HLEN.out; omega)).mono ?_
          rintro e w4 ⟨v4, rfl, hv4, hf4⟩
          have hv4 : Own8 w4 wr.heap.size v4 bs := hv4
          have hf4' := hf.then_ hf4
          obtain ⟨A4, cap4, rfl, _, hr4⟩ := hv4.form
          rw [hnil]
          clear hnil hf4 hW
          go_wp2_with fail
          refine (wire_New hr4 (by have := HLEN.out; omega)).mono ?_
          rintro e w5 ⟨g, A5, rfl, hR5, hg5, hA5, hf5⟩
          have hf5' := hf4'.then_ hf5
          have hgw : w.heap.size ≤ g := by have := hf4'.size; omega
          clear hv4 hr4 hf5 hg5
          go_wp2_with fail
          go_loopw [9] (fun i wr => ∃ (k p : Nat), k ≤ ops.length ∧ i = .int .i64 k ∧ ReaderAt wr g A5 bs p none ∧ bs.drop p = (ops.drop k).flatMap encD ∧ Fr (fun _ => False) w wr) (fun i _ => ops.length - (intOf i).toNat)
          case atStart => exact ⟨0, 0, by omega, rfl, hR5, by rw [List.drop_zero, List.drop_zero, HB.out], hf5'⟩
          case round =>
            obtain ⟨k, p, hk, rfl, hR, hdr, hf⟩ := hrel
            by_cases hlt : k < ops.length
            · obtain ⟨x, hx⟩ : ∃ x, ops[k]? = some x := ⟨ops[k], List.getElem?_eq_getElem hlt⟩
              obtain ⟨bb, o, rfl, hFb, hop0⟩ := hr k x hx
              have hop := hop0.fr hf id (fun _ _ => id)
              obtain ⟨hs0, hl0, hm0⟩ := hml x (List.mem_of_getElem? hx)
              have hen := HEN.out x (List.mem_of_getElem? hx)
              obtain ⟨_, _, _, hmw0, hn0, hn1⟩ := HOK.out x (List.mem_of_getElem? hx)
              have hmw := Lib.hid hmw0
              have hbg : bb ≠ g := by omega
              have cw := hop.what
              have cn := hop.n
              obtain ⟨A1, c1, e1, r1⟩ := hop.s
              obtain ⟨A2, c2, e2, r2⟩ := hop.l
              obtain ⟨A3, c3, e3, r3⟩ := hop.m
              have hkd : Hid (kindOf x = bits .and .i64 x.what 3) := rfl
              rw [drop_flat hx] at hdr
              clear hr hx hop hop0 hml hmw0
              by_cases h0 : kindOf x = 0
              · have t0 : bits .and .i64 x.what 3 = 0 := hkd.out ▸ h0
                have hd : encD x = num8 x.n := by rw [encD, enc0 h0]; rfl
                rw [hd] at hdr
                obtain ⟨hC, hX0, hD⟩ := num_read hdr hn0 hn1
                have HC := Lib.hid hC
                have HD := Lib.hid hD
                have HX0 := Lib.hid hX0
                clear h0 hd hdr hC hD hX0 e1 e2 e3
                go_wp2_with fail
                refine (reader_Num hR (by have := HLEN.out; omega) H8.out).mono ?_
                rintro e w6 (⟨_, v6, rfl, hv6, hR6, hf6⟩ | ⟨h, _⟩)
                · obtain rfl : v6 = .int .i64 (numX bs p) := hv6
                  rw [HX0.out]
                  have cn6 := hf6.cell_some cn hbg
                  have hfw := hf.trans hf6 (fun j hj e => by omega)
                  clear hR hf6 cn cw
                  go_wp2_with fail
                  go_roundw
                  case rel => exact ⟨k + 1, p + 8, by omega, by go_num, hR6, HD.out, hfw⟩
                  case measure => simp [intOf]; omega
                · exact absurd HC.out h
              · have k0 : (bits .and .i64 x.what 3 == 0) = false := by rw [← hkd.out]; simpa using h0
                by_cases h1 : kindOf x = 1
                · have t0 : bits .and .i64 x.what 3 = 1 := hkd.out ▸ h1
                  have hs1 : x.s.length ≤ 65536 := by
                    apply Classical.byContradiction
                    intro hh
                    rw [enc1 h1, if_neg hh] at hen
                    cases hen
                  have hd : encD x = textB x.s := by rw [encD, enc1 h1, if_pos hs1]; rfl
                  rw [hd] at hdr
                  obtain ⟨hC, hX0, hN, hD⟩ := text_read hdr hs1
                  have HC := Lib.hid hC
                  have HD := Lib.hid hD
                  have HX0 := Lib.hid hX0
                  clear h0 h1 hd hdr hC hD hX0 hN e2 e3 hs1 k0 hen
                  go_wp2_with fail
                  refine (reader_Text hR (by have := HLEN.out; omega) H8.out).mono ?_
                  rintro e w6 (⟨_, v6, rfl, hv6, hR6, hf6⟩ | ⟨h, _⟩)
                  · rw [HX0.out] at hv6
                    obtain ⟨A6, cap6, rfl, hr6⟩ := hv6
                    have e16 := hf6.cell_some e1 hbg
                    have hfw := hf.trans hf6 (fun j hj e => by omega)
                    have r16 := r1.fr hf6 (fun j hj e => by omega)
                    have hcv1 := fun n => conv_bytes (w := w6.drewN n) (n := x.s.length) (cap := cap6) (hr6.fr ((Fr.refl (fun _ => False) w6).drewN n) (fun _ _ => id)) rfl
                    have hcv2 := fun n => conv_bytes (w := w6.drewN n) (n := x.s.length) (cap := c1) (r16.fr ((Fr.refl (fun _ => False) w6).drewN n) (fun _ _ => id)) rfl
                    clear hR hf6 cn cw e1 r1 r2 r3 hr6 r16
                    go_wp2_with fail
                    go_big_quiet (fail)
                    go_wp2_with fail
                    go_roundw
                    case rel => exact ⟨k + 1, p + 4 + textN bs p, by omega, by go_num, hR6.fr ((Fr.refl (fun _ => False) w6).drewN _) id (fun _ _ _ => id), HD.out, hfw.drewN _⟩
                    case measure => simp [intOf]; omega
                  · exact absurd HC.out h
                · have k1 : (bits .and .i64 x.what 3 == 1) = false := by rw [← hkd.out]; simpa using h1
                  by_cases h2 : kindOf x = 2
                  · have t0 : bits .and .i64 x.what 3 = 2 := hkd.out ▸ h2
                    have hs2 : x.l.length ≤ 1024 ∧ longs x.l = false := by
                      apply Classical.byContradiction
                      intro hh
                      rw [enc2 h2, listO, if_neg hh] at hen
                      cases hen
                    have hd : encD x = listB x.l := by rw [encD, enc2 h2, listO, if_pos hs2]; rfl
                    rw [hd] at hdr
                    obtain ⟨hC, hX0, hD⟩ := list_read hdr hs2.1 (longs_false hs2.2)
                    have HC := Lib.hid hC
                    have HD := Lib.hid hD
                    have HX0 := Lib.hid hX0
                    clear h0 h1 h2 hd hdr hC hD hX0 e1 e3 hs2 k0 k1 hen
                    go_wp2_with fail
                    refine (reader_List hR (by have := HLEN.out; omega) H8.out).mono ?_
                    rintro e w6 (⟨_, v6, rfl, hv6, hR6, hf6⟩ | ⟨h, _⟩)
                    · rw [HX0.out] at hv6
                      obtain ⟨A6, cap6, rfl, hr6⟩ := TextRow.of_list hv6
                      have e26 := hf6.cell_some e2 hbg
                      have hfw := hf.trans hf6 (fun j hj e => by omega)
                      have r26 := r2.fr hf6 (fun j hj e => by omega)
                      have HSm := ref02_Same (cap := cap6) (cap' := c2) hr6 r26 hl0 rfl
                      clear hR hf6 cn cw e2 r1 r2 r3 hr6 r26 hv6
                      go_wp2_with (go_at_call 31; refine HSm.mono ?_; rintro e w7 ⟨rfl, hf7⟩)
                      go_roundw
                      case rel => exact ⟨k + 1, listP bs p, by omega, by go_num, hR6.fr hf7 id (fun _ _ _ => id), HD.out, hfw.then_ hf7⟩
                      case measure => simp [intOf]; omega
                    · exact absurd HC.out h
                  · have k2 : (bits .and .i64 x.what 3 == 2) = false := by rw [← hkd.out]; simpa using h2
                    by_cases h3 : kindOf x = 3
                    · have t0 : bits .and .i64 x.what 3 = 3 := hkd.out ▸ h3
                      have hs3 : x.m.length ≤ 1024 := by
                        apply Classical.byContradiction
                        intro hh
                        rw [enc3 h3, if_neg hh] at hen
                        cases hen
                      have hd : encD x = numsB x.m := by rw [encD, enc3 h3, if_pos hs3]; rfl
                      rw [hd] at hdr
                      obtain ⟨hC, hX0, hD⟩ := nums_read hdr hs3 hmw.out
                      have HC := Lib.hid hC
                      have HD := Lib.hid hD
                      have HX0 := Lib.hid hX0
                      clear h0 h1 h2 h3 hd hdr hC hD hX0 e1 e2 hs3 k0 k1 k2 hen
                      go_wp2_with fail
                      refine (reader_Nums hR (by have := HLEN.out; omega) H8.out).mono ?_
                      rintro e w6 (⟨_, v6, rfl, hv6, hR6, hf6⟩ | ⟨h, _⟩)
                      · rw [HX0.out] at hv6
                        obtain ⟨A6, cap6, rfl, hr6⟩ := NumRow.of_own hv6
                        have e36 := hf6.cell_some e3 hbg
                        have hfw := hf.trans hf6 (fun j hj e => by omega)
                        have r36 := r3.fr hf6 (fun j hj e => by omega)
                        have HSm := ref02_SameNums (cap := cap6) (cap' := c3) hr6 r36 hm0 rfl
                        clear hR hf6 cn cw e3 r1 r2 r3 hr6 r36 hv6
                        go_wp2_with (go_at_call 32; refine HSm.mono ?_; rintro e w7 ⟨rfl, hf7⟩)
                        go_roundw
                        case rel => exact ⟨k + 1, numsP bs p, by omega, by go_num, hR6.fr hf7 id (fun _ _ _ => id), HD.out, hfw.then_ hf7⟩
                        case measure => simp [intOf]; omega
                      · exact absurd HC.out h
                    · have hd : encD x = [] := by rw [encD, enc4 h0 h1 h2 h3]; rfl
                      have k3 : (bits .and .i64 x.what 3 == 3) = false := by rw [← hkd.out]; simpa using h3
                      rw [hd, List.nil_append] at hdr
                      have HD := Lib.hid hdr
                      clear h0 h1 h2 h3 hd hdr e1 e2 e3 hen
                      go_wp2_with fail
                      go_roundw
                      case rel => exact ⟨k + 1, p, by omega, by go_num, hR, HD.out, hf⟩
                      case measure => simp [intOf]; omega
            · obtain rfl : k = ops.length := by omega
              have hE : Hid (errO (endE bs p none) = .nilIface) := by
                rw [List.drop_length] at hdr
                have := congrArg List.length hdr
                rw [List.length_drop] at this
                simp only [List.flatMap_nil, List.length_nil] at this
                show _ = _
                rw [endE, if_neg (by omega)]
                rfl
              have HEd := reader_End hR (by have := HLEN.out; omega)
              clear hr hml hdr
              go_wp2_with (go_at_call 14; refine HEd.mono ?_; rintro e w6 ⟨rfl, hf6⟩; rw [hE.out])
              go_ret
              exact ⟨rfl, hf.then_ hf6⟩
end Go.Proofs.YtkbcobbnjiekfaaDoor
