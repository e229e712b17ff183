/- cohortlaw02.WireSizes: the walk. -/
import Derived.Test.YtkbcobbnjiekfaaDoorHead02
import Derived.Test.YtkbcobbnjiekfaaDoorEnc
namespace Go.Proofs.YtkbcobbnjiekfaaDoor
open Go Go.RowKit
theorem ByteRow.take {w : World} {F : Nat → Prop} {A : Option Addr} {xs : List Int} (h : ByteRow w F A xs) (n : Nat) : ByteRow w F A (xs.take n) := by
  intro k x hx
  rw [List.getElem?_take] at hx
  split at hx
  · exact h k x hx
  · cases hx
theorem lens_take (l : List (List Int)) (j : Nat) : lens (l.take j) ≤ lens l := by
  have : lens l = lens (l.take j) + lens (l.drop j) := by
    unfold lens
    rw [← List.sum_append, ← List.map_append, List.take_append_drop]
  omega
theorem lens_mem {l : List (List Int)} {j : Nat} {t : List Int} (h : l[j]? = some t) : t.length ≤ lens l := by
  have h1 := lens_take l (j + 1)
  have h2 := sum_take List.length h
  unfold lens at h1 ⊢
  omega
theorem strOf_take {bs e : List Int} : (bs ++ e).take bs.length = bs := by simp
set_option maxRecDepth 100000 in
set_option maxHeartbeats 1000000 in
theorem wireSizes_walk {w : World} (hG0 : Laid w) {A : Option Addr} {cap : Nat} {ops : List OpD} (hr : OpRow w (fun k => k < w.heap.size) A ops) (hll : ops.length ≤ 9223372036854775807) (hml : ∀ x ∈ ops, x.s.length ≤ 9223372036854775807 ∧ x.l.length ≤ 9223372036854775807 ∧ x.m.length ≤ 9223372036854775807) :
    Calls Tryd.prog 4 #[.slice A ops.length cap] w (Fine w true) := by
  have hGb : 0 < w.heap.size := World.block_lt_of_cell? w _ hG0
  go_enter Tryd.func4, Tryd.ntmps4
  go_wp2_with fail
  refine (law02_head hG0).mono ?_
  rintro e w1 ⟨rfl, hf1⟩
  go_wp2_with fail
  refine (law02_Great (hr.fr hf1 (fun _ _ => id)) hll hml).mono ?_
  rintro e w2 ⟨⟨b, rfl, hb⟩, hf12⟩
  have hf2 := hf1.then_ hf12
  clear hf1 hf12
  cases b with
  | true =>
    clear hr hml hb
    go_wp2
    go_ret
    exact ⟨rfl, hf2⟩
  | false =>
    have HS := Lib.hid (hb rfl)
    have hf3 : Fr (fun _ => False) w (w2.alloc (Obj.cells #[.slice none 0 0, .nilIface] 28)) := hf2.alloc _
    have hW0 : WriterAt (w2.alloc (Obj.cells #[.slice none 0 0, .nilIface] 28)) w2.heap.size w2.heap.size (.slice none 0 0) [] none := ⟨Blk.new _ _ _, Own8.nil _ _⟩
    have hsz2 := hf2.size
    clear hb
    go_wp2_with fail
    go_loopw [5, 6, 7] (fun n t i wr => ∃ (k : Nat) (bs : List Int) (v : Value), k ≤ ops.length ∧ i = .int .i64 k ∧ n = .int .i64 bs.length ∧ t = .string (strOfNums bs) ∧ bs.length ≤ 8200 * k + wts (ops.take k) ∧ WriterAt wr w2.heap.size w2.heap.size v bs none ∧ Fr (fun _ => False) w wr) (fun _ _ i _ => ops.length - (intOf i).toNat)
    case atStart => exact ⟨0, [], _, by omega, rfl, rfl, rfl, by simp, hW0, hf3⟩
    case round =>
      obtain ⟨k, bs, v, hk, rfl, rfl, rfl, hbs, hW, hf⟩ := hrel
      by_cases hlt : k < ops.length
      · obtain ⟨x, hx⟩ : ∃ x, ops[k]? = some x := ⟨ops[k], List.getElem?_eq_getElem hlt⟩
        obtain ⟨bb, o, rfl, hFb, hop0⟩ := hr k x hx
        have hop := hop0.fr hf id (fun _ _ => id)
        obtain ⟨hs0, hl0, hm0⟩ := hml x (List.mem_of_getElem? hx)
        have HX := Lib.hid hx
        have HBS := Lib.hid hbs
        have HSB := Lib.hid (small_bound HS.out hx)
        have hsz : w2.heap.size ≤ wr.heap.size := Nat.le_of_lt hW.blk.lt
        have hA : ∀ j, j < w.heap.size → v.ownBlock ≠ some j := fun j hj e => by have := own_ge hW.own j e; omega
        have hBB : ¬ (bb = w2.heap.size ∨ v.ownBlock = some bb) := fun h => h.elim (fun h => by omega) (hA bb hFb)
        have cw := hop.what
        have cn := hop.n
        obtain ⟨A1, c1, e1, r1⟩ := hop.s
        obtain ⟨A2, c2, e2, r2⟩ := hop.l
        obtain ⟨A3, c3, e3, r3⟩ := hop.m
        have hbl : (bs.length : Int) ≤ 200000000 := by have := HBS.out; have := HSB.out; omega
        have hss : (strOfNums bs).size = bs.length := strOfNums_size bs
        have hkd : Hid (kindOf x = bits .and .i64 x.what 3) := rfl
        clear hr hx hop hop0 hml hbs
        by_cases h0 : kindOf x = 0
        · have t0 : bits .and .i64 x.what 3 = 0 := hkd.out ▸ h0
          have HE := Lib.hid (enc0 h0)
          clear h0
          go_wp2_with (first
            | (go_at_call 10; refine (writer_Num hW hsz (by have := HBS.out; have := HSB.out; omega) x.n).mono ?_; rintro e w3 ⟨v3, rfl, hW3, hf3, hk3⟩))
          have hW3 : WriterAt w3 w2.heap.size w2.heap.size v3 (bs ++ num8 x.n) none := hW3
          have hf3' : Fr (fun _ => False) w w3 := hf.trans hf3 (fun j hj h => by rcases h with h | h; (· omega); (· exact absurd h (hA j hj)))
          obtain ⟨ys, hys⟩ : ∃ ys, bs ++ num8 x.n = ys := ⟨_, rfl⟩
          rw [hys] at hW3
          have hyt : Hid (ys.take bs.length = bs) := by show _ = _; rw [← hys]; exact strOf_take
          have hyl : Hid (ys.length = bs.length + 8) := by show _ = _; rw [← hys, List.length_append]; rw [num8_length]
          have HYB : Hid (ys.length ≤ 8200 * (k + 1) + wts (ops.take (k + 1))) := by
            have h1 := enc_length HE.out
            have h2 : wts (ops.take (k + 1)) = wts (ops.take k) + wt x := sum_take wt HX.out
            have h3 := HBS.out
            show _ ≤ _
            rw [← hys, List.length_append]
            omega
          clear hys hk3 hf3 hW cw cn e1 e2 e3
          refine (writer_Bytes hW3 (by have := HYB.out; have := HSB.out; have : wts (ops.take (k + 1)) = wts (ops.take k) + wt x := sum_take wt HX.out; omega)).mono ?_
          rintro e w4 ⟨v4, rfl, hv4, hf4⟩
          have hv4 : Own8 w4 w3.heap.size v4 ys := hv4
          have hW4 := hW3.fr hf4 id (fun _ _ => id)
          have hf4' := hf3'.then_ hf4
          obtain ⟨A4, cap4, rfl, hcap4, hr4⟩ := hv4.form
          have hr5 : ByteRow w4 (fun k => (Value.slice A4 ys.length cap4).ownBlock = some k) A4 bs := by rw [← hyt.out]; exact hr4.take _
          have hcv1 := conv_bytes (w := w4) (n := bs.length) (cap := cap4) hr5 rfl
          have hcv2 := conv_bytes (w := w4) (n := ys.length) (cap := cap4) hr4 rfl
          have hne : ((ys.length : Int) != ((bs.length : Int) + 8)) = false := by have := hyl.out; simp; omega
          have hle5 : bs.length ≤ ys.length := by have := hyl.out; omega
          have hle6 : bs.length ≤ cap4 := by omega
          have hnil : errW none = .nilIface := rfl
          rw [hnil]
          clear hnil hW3 hf4 hf3' hv4
          obtain ⟨b4, o4, rfl, _, _⟩ := hr4.at (by have := hyl.out; omega)
          clear hr4 hr5
          go_wp2_with fail
          go_roundw
          case rel => exact ⟨k + 1, ys, v3, by omega, by go_num, (by have := hyl.out; congr 1; omega), rfl, HYB.out, hW4, hf4'⟩
          case measure => simp [intOf]; omega

        · have k0 : (bits .and .i64 x.what 3 == 0) = false := by rw [← hkd.out]; simpa using h0
          by_cases h1 : kindOf x = 1
          · have t0 : bits .and .i64 x.what 3 = 1 := hkd.out ▸ h1
            by_cases hs : x.s.length ≤ 65536
            · have HE : Hid (encO x = some (textB x.s)) := by show _ = _; rw [enc1 h1, if_pos hs]
              clear h1 h0 k0
              have HT := writer_Text (cap := c1) hW hsz r1 hA (by have := HBS.out; have := HSB.out; have : wt x = x.s.length + lens x.l := rfl; omega)
              rw [if_pos hs] at HT
              go_wp2_with (first
                | (go_at_call 17; refine HT.mono ?_; rintro e w3 ⟨v3, rfl, hW3, hf3, hk3⟩; have e1' := hf3.cell_some e1 hBB))
              clear HT
              have hW3 : WriterAt w3 w2.heap.size w2.heap.size v3 (bs ++ textB x.s) none := hW3
              have hf3' : Fr (fun _ => False) w w3 := hf.trans hf3 (fun j hj h => by rcases h with h | h; (· omega); (· exact absurd h (hA j hj)))
              obtain ⟨ys, hys⟩ : ∃ ys, bs ++ textB x.s = ys := ⟨_, rfl⟩
              rw [hys] at hW3
              have hyt : Hid (ys.take bs.length = bs) := by show _ = _; rw [← hys]; exact strOf_take
              have hyl : Hid (ys.length = bs.length + (4 + x.s.length)) := by show _ = _; rw [← hys, List.length_append]; rw [textB_length]
              have HYB : Hid (ys.length ≤ 8200 * (k + 1) + wts (ops.take (k + 1))) := by
                have h1 := enc_length HE.out
                have h2 : wts (ops.take (k + 1)) = wts (ops.take k) + wt x := sum_take wt HX.out
                have h3 := HBS.out
                show _ ≤ _
                rw [← hys, List.length_append]
                omega
              clear hys hk3 hf3 hW cw cn e2 e3
              refine (writer_Bytes hW3 (by have := HYB.out; have := HSB.out; have : wts (ops.take (k + 1)) = wts (ops.take k) + wt x := sum_take wt HX.out; omega)).mono ?_
              rintro e w4 ⟨v4, rfl, hv4, hf4⟩
              have hv4 : Own8 w4 w3.heap.size v4 ys := hv4
              have hW4 := hW3.fr hf4 id (fun _ _ => id)
              have hf4' := hf3'.then_ hf4
              obtain ⟨A4, cap4, rfl, hcap4, hr4⟩ := hv4.form
              have hr5 : ByteRow w4 (fun k => (Value.slice A4 ys.length cap4).ownBlock = some k) A4 bs := by rw [← hyt.out]; exact hr4.take _
              have hcv1 := conv_bytes (w := w4) (n := bs.length) (cap := cap4) hr5 rfl
              have hcv2 := conv_bytes (w := w4) (n := ys.length) (cap := cap4) hr4 rfl
              have hne : ((ys.length : Int) != ((bs.length : Int) + 4 + x.s.length)) = false := by have := hyl.out; simp; omega
              have hle5 : bs.length ≤ ys.length := by have := hyl.out; omega
              have hle6 : bs.length ≤ cap4 := by omega
              have hnil : errW none = .nilIface := rfl
              rw [hnil]
              clear hnil hW3 hf4 hf3' hv4
              obtain ⟨b4, o4, rfl, _, _⟩ := hr4.at (by have := hyl.out; omega)
              clear hr4 hr5
              go_wp2_with fail
              go_roundw
              case rel => exact ⟨k + 1, ys, v3, by omega, by go_num, (by have := hyl.out; congr 1; omega), rfl, HYB.out, hW4, hf4'⟩
              case measure => simp [intOf]; omega
            · clear h1 h0 k0
              have HT := writer_Text (cap := c1) hW hsz r1 hA (by have := HBS.out; have := HSB.out; have : wt x = x.s.length + lens x.l := rfl; omega)
              rw [if_neg hs] at HT
              go_wp2_with (first
                | (go_at_call 17; refine HT.mono ?_; rintro e w3 ⟨v3, rfl, hW3, hf3, hk3⟩; have e1' := hf3.cell_some e1 hBB))
              clear HT
              have hW3 : WriterAt w3 w2.heap.size w2.heap.size v3 bs (some bs.length) := hW3
              have hf3' : Fr (fun _ => False) w w3 := hf.trans hf3 (fun j hj h => by rcases h with h | h; (· omega); (· exact absurd h (hA j hj)))
              obtain ⟨t, u, hu⟩ := errO_some ([((⟨#[119, 114, 105, 116, 101]⟩ : ByteArray), (bs.length : Int))], 2)
              have hU : errW (some bs.length) = .iface t u := hu
              clear hk3 hf3 hW cw cn e2 e3 hu
              refine (writer_Bytes hW3 (by have := HBS.out; have := HSB.out; omega)).mono ?_
              rintro e w4 ⟨v4, rfl, hv4, hf4⟩
              have hv4 : Own8 w4 w3.heap.size v4 [] := hv4
              have hf4' := hf3'.then_ hf4
              obtain ⟨A4, cap4, rfl, hcap4, hr4⟩ := hv4.form
              rw [hU]
              clear hW3 hf4 hf3' hv4 hr4
              go_wp2
              go_ret
              exact ⟨rfl, hf4'⟩

          · have k1 : (bits .and .i64 x.what 3 == 1) = false := by rw [← hkd.out]; simpa using h1
            by_cases h2 : kindOf x = 2
            · have t0 : bits .and .i64 x.what 3 = 2 := hkd.out ▸ h2
              by_cases hlo : x.l.length ≤ 1024 ∧ longs x.l = false
              · have HE : Hid (encO x = some (listB x.l)) := by show _ = _; rw [enc2 h2, listO, if_pos hlo]
                have hl1 := hlo.1
                clear h2 h1 h0 k0 k1
                have HT := writer_List (cap := c2) hW hsz r2 hA (fun j hj => by omega) hl0 (.inl (by rw [listB_length]; have := HBS.out; have := HSB.out; have : wt x = x.s.length + lens x.l := rfl; omega))
                rw [listO, if_pos hlo] at HT
                have r2f := r2
                go_wp2_with (first
                  | (go_at_call 18; refine HT.mono ?_; rintro e w3 ⟨v3, rfl, hW3, hf3, hk3⟩; have e2' := hf3.cell_some e2 hBB; have r2' := r2.fr hf3 (fun j hj h => h.elim (fun h => by omega) (hA j hj))))
                clear HT r2f r2 e1 e3
                go_loopw [5, 8] (fun n jv wi => ∃ (j : Nat) (nv : Int), j ≤ x.l.length ∧ jv = .int .i64 j ∧ n = .int .i64 nv ∧ nv = (bs.length : Int) + 4 + 4 * j + lens (x.l.take j) ∧ w3 = wi) (fun _ jv _ => x.l.length - (intOf jv).toNat)
                case atStart => exact ⟨0, _, by omega, rfl, rfl, by simp [lens], rfl⟩
                case round =>
                  obtain ⟨j, nv, hj, rfl, rfl, hnv, rfl⟩ := hrel
                  have HNV := Lib.hid hnv
                  by_cases hjl : j < x.l.length
                  · obtain ⟨t, ht⟩ : ∃ t, x.l[j]? = some t := ⟨x.l[j], List.getElem?_eq_getElem hjl⟩
                    obtain ⟨b2, o2, A4, c4, rfl, _, e4, _⟩ := r2' j t ht
                    have hjl' : (j : Int) < (x.l.length : Int) := by omega
                    have HT := Lib.hid ht
                    have hnb : nv ≤ 300000000 := by
                      have := HBS.out; have := HSB.out; have : wt x = x.s.length + lens x.l := rfl; have h9 := sum_take List.length ht; have : lens (x.l.take j) ≤ lens x.l := lens_take x.l j; omega
                    have hnb0 : 0 ≤ nv := by omega
                    have htl : (t.length : Int) ≤ 400000 := by
                      have := HSB.out; have : wt x = x.s.length + lens x.l := rfl; have := lens_mem ht; omega
                    clear r2' hnv ht
                    go_wp2_with fail
                    go_roundw
                    case rel => exact ⟨j + 1, _, by omega, by go_num, rfl, by have := HNV.out; have := sum_take List.length HT.out; simp only [lens] at *; omega, by trivial⟩
                    case measure => simp [intOf]; omega
                  · obtain rfl : j = x.l.length := by omega
                    clear r2' hnv
                    have HNV2 : Hid (nv = (bs.length : Int) + 4 + 4 * x.l.length + lens x.l) := by have := HNV.out; rw [List.take_length] at this; exact this

                    have hW3 : WriterAt w3 w2.heap.size w2.heap.size v3 (bs ++ listB x.l) none := hW3
                    have hf3' : Fr (fun _ => False) w w3 := hf.trans hf3 (fun j hj h => by rcases h with h | h; (· omega); (· exact absurd h (hA j hj)))
                    obtain ⟨ys, hys⟩ : ∃ ys, bs ++ listB x.l = ys := ⟨_, rfl⟩
                    rw [hys] at hW3
                    have hyt : Hid (ys.take bs.length = bs) := by show _ = _; rw [← hys]; exact strOf_take
                    have hyl : Hid (ys.length = bs.length + (4 + 4 * x.l.length + lens x.l)) := by show _ = _; rw [← hys, List.length_append]; rw [listB_length]
                    have HYB : Hid (ys.length ≤ 8200 * (k + 1) + wts (ops.take (k + 1))) := by
                      have h1 := enc_length HE.out
                      have h2 : wts (ops.take (k + 1)) = wts (ops.take k) + wt x := sum_take wt HX.out
                      have h3 := HBS.out
                      show _ ≤ _
                      rw [← hys, List.length_append]
                      omega
                    clear hys hk3 hf3 hW cw cn 
                    go_wp2_with fail
                    refine (writer_Bytes hW3 (by have := HYB.out; have := HSB.out; have : wts (ops.take (k + 1)) = wts (ops.take k) + wt x := sum_take wt HX.out; omega)).mono ?_
                    rintro e w4 ⟨v4, rfl, hv4, hf4⟩
                    have hv4 : Own8 w4 w3.heap.size v4 ys := hv4
                    have hW4 := hW3.fr hf4 id (fun _ _ => id)
                    have hf4' := hf3'.then_ hf4
                    obtain ⟨A4, cap4, rfl, hcap4, hr4⟩ := hv4.form
                    have hr5 : ByteRow w4 (fun k => (Value.slice A4 ys.length cap4).ownBlock = some k) A4 bs := by rw [← hyt.out]; exact hr4.take _
                    have hcv1 := conv_bytes (w := w4) (n := bs.length) (cap := cap4) hr5 rfl
                    have hcv2 := conv_bytes (w := w4) (n := ys.length) (cap := cap4) hr4 rfl
                    have hne : ((ys.length : Int) != nv) = false := by have := hyl.out; have := HNV2.out; simp; omega
                    have hle5 : bs.length ≤ ys.length := by have := hyl.out; omega
                    have hle6 : bs.length ≤ cap4 := by omega
                    have hnil : errW none = .nilIface := rfl
                    rw [hnil]
                    clear hnil hW3 hf4 hf3' hv4
                    obtain ⟨b4, o4, rfl, _, _⟩ := hr4.at (by have := hyl.out; omega)
                    clear hr4 hr5
                    go_wp2_with fail
                    go_roundw
                    case rel => exact ⟨k + 1, ys, v3, by omega, by go_num, (by have := hyl.out; have := HNV2.out; congr 1; omega), rfl, HYB.out, hW4, hf4'⟩
                    case measure => simp [intOf]; omega
              · have hBB2 : bs.length + (listB x.l).length ≤ 1099511627776 ∨ 1024 < x.l.length ∨ longs x.l = true := by
                  by_cases hl1 : x.l.length ≤ 1024
                  · cases hh : longs x.l with
                    | true => exact .inr (.inr rfl)
                    | false => exact absurd ⟨hl1, hh⟩ hlo
                  · exact .inr (.inl (by omega))
                clear h2 h1 h0 k0 k1
                have HT := writer_List (cap := c2) hW hsz r2 hA (fun j hj => by omega) hl0 (hBB2)
                rw [listO, if_neg hlo] at HT
                have r2f := r2
                go_wp2_with (first
                  | (go_at_call 18; refine HT.mono ?_; rintro e w3 ⟨v3, rfl, hW3, hf3, hk3⟩; have e2' := hf3.cell_some e2 hBB; have r2' := r2.fr hf3 (fun j hj h => h.elim (fun h => by omega) (hA j hj))))
                clear HT r2f r2 e1 e3
                go_loopw [5, 8] (fun n jv wi => ∃ (j : Nat) (nv : Int), j ≤ x.l.length ∧ jv = .int .i64 j ∧ n = .int .i64 nv ∧ True ∧ w3 = wi) (fun _ jv _ => x.l.length - (intOf jv).toNat)
                case atStart => exact ⟨0, _, by omega, rfl, rfl, trivial, rfl⟩
                case round =>
                  obtain ⟨j, nv, hj, rfl, rfl, hnv, rfl⟩ := hrel
                  have HNV := Lib.hid hnv
                  by_cases hjl : j < x.l.length
                  · obtain ⟨t, ht⟩ : ∃ t, x.l[j]? = some t := ⟨x.l[j], List.getElem?_eq_getElem hjl⟩
                    obtain ⟨b2, o2, A4, c4, rfl, _, e4, _⟩ := r2' j t ht
                    have hjl' : (j : Int) < (x.l.length : Int) := by omega
                    have HT := Lib.hid ht
                    clear r2' hnv ht
                    go_wp2_with fail
                    go_roundw
                    case rel => exact ⟨j + 1, _, by omega, by go_num, rfl, trivial, by trivial⟩
                    case measure => simp [intOf]; omega
                  · obtain rfl : j = x.l.length := by omega
                    clear r2' hnv
                    have hW3 : WriterAt w3 w2.heap.size w2.heap.size v3 bs (some bs.length) := hW3
                    have hf3' : Fr (fun _ => False) w w3 := hf.trans hf3 (fun j hj h => by rcases h with h | h; (· omega); (· exact absurd h (hA j hj)))
                    obtain ⟨t, u, hu⟩ := errO_some ([((⟨#[119, 114, 105, 116, 101]⟩ : ByteArray), (bs.length : Int))], 2)
                    have hU : errW (some bs.length) = .iface t u := hu
                    clear hk3 hf3 hW cw cn  hu
                    go_wp2_with fail
                    refine (writer_Bytes hW3 (by have := HBS.out; have := HSB.out; omega)).mono ?_
                    rintro e w4 ⟨v4, rfl, hv4, hf4⟩
                    have hv4 : Own8 w4 w3.heap.size v4 [] := hv4
                    have hf4' := hf3'.then_ hf4
                    obtain ⟨A4, cap4, rfl, hcap4, hr4⟩ := hv4.form
                    rw [hU]
                    clear hW3 hf4 hf3' hv4 hr4
                    go_wp2
                    go_ret
                    exact ⟨rfl, hf4'⟩

            · have k2 : (bits .and .i64 x.what 3 == 2) = false := by rw [← hkd.out]; simpa using h2
              by_cases h3 : kindOf x = 3
              · have t0 : bits .and .i64 x.what 3 = 3 := hkd.out ▸ h3
                by_cases hs : x.m.length ≤ 1024
                · have HE : Hid (encO x = some (numsB x.m)) := by show _ = _; rw [enc3 h3, if_pos hs]
                  have hs2 : (x.m.length : Int) ≤ 1024 := by omega
                  clear h3 h2 h1 h0 k0 k1 k2
                  have HT := writer_Nums (cap := c3) hW hsz r3 hA hm0 (.inl (by rw [numsB_length]; have := HBS.out; have := HSB.out; omega))
                  rw [if_pos hs] at HT
                  go_wp2_with (first
                    | (go_at_call 19; refine HT.mono ?_; rintro e w3 ⟨v3, rfl, hW3, hf3, hk3⟩; have e3' := hf3.cell_some e3 hBB))
                  clear HT
                  have hW3 : WriterAt w3 w2.heap.size w2.heap.size v3 (bs ++ numsB x.m) none := hW3
                  have hf3' : Fr (fun _ => False) w w3 := hf.trans hf3 (fun j hj h => by rcases h with h | h; (· omega); (· exact absurd h (hA j hj)))
                  obtain ⟨ys, hys⟩ : ∃ ys, bs ++ numsB x.m = ys := ⟨_, rfl⟩
                  rw [hys] at hW3
                  have hyt : Hid (ys.take bs.length = bs) := by show _ = _; rw [← hys]; exact strOf_take
                  have hyl : Hid (ys.length = bs.length + (4 + 8 * x.m.length)) := by show _ = _; rw [← hys, List.length_append]; rw [numsB_length]
                  have HYB : Hid (ys.length ≤ 8200 * (k + 1) + wts (ops.take (k + 1))) := by
                    have h1 := enc_length HE.out
                    have h2 : wts (ops.take (k + 1)) = wts (ops.take k) + wt x := sum_take wt HX.out
                    have h3 := HBS.out
                    show _ ≤ _
                    rw [← hys, List.length_append]
                    omega
                  clear hys hk3 hf3 hW cw cn e1 e2
                  refine (writer_Bytes hW3 (by have := HYB.out; have := HSB.out; have : wts (ops.take (k + 1)) = wts (ops.take k) + wt x := sum_take wt HX.out; omega)).mono ?_
                  rintro e w4 ⟨v4, rfl, hv4, hf4⟩
                  have hv4 : Own8 w4 w3.heap.size v4 ys := hv4
                  have hW4 := hW3.fr hf4 id (fun _ _ => id)
                  have hf4' := hf3'.then_ hf4
                  obtain ⟨A4, cap4, rfl, hcap4, hr4⟩ := hv4.form
                  have hr5 : ByteRow w4 (fun k => (Value.slice A4 ys.length cap4).ownBlock = some k) A4 bs := by rw [← hyt.out]; exact hr4.take _
                  have hcv1 := conv_bytes (w := w4) (n := bs.length) (cap := cap4) hr5 rfl
                  have hcv2 := conv_bytes (w := w4) (n := ys.length) (cap := cap4) hr4 rfl
                  have hne : ((ys.length : Int) != ((bs.length : Int) + 4 + 8 * x.m.length)) = false := by have := hyl.out; simp; omega
                  have hle5 : bs.length ≤ ys.length := by have := hyl.out; omega
                  have hle6 : bs.length ≤ cap4 := by omega
                  have hnil : errW none = .nilIface := rfl
                  rw [hnil]
                  clear hnil hW3 hf4 hf3' hv4
                  obtain ⟨b4, o4, rfl, _, _⟩ := hr4.at (by have := hyl.out; omega)
                  clear hr4 hr5
                  go_wp2_with fail
                  go_roundw
                  case rel => exact ⟨k + 1, ys, v3, by omega, by go_num, (by have := hyl.out; congr 1; omega), rfl, HYB.out, hW4, hf4'⟩
                  case measure => simp [intOf]; omega
                · clear h3 h2 h1 h0 k0 k1 k2
                  have HT := writer_Nums (cap := c3) hW hsz r3 hA hm0 (.inr (by omega))
                  rw [if_neg hs] at HT
                  go_wp2_with (first
                    | (go_at_call 19; refine HT.mono ?_; rintro e w3 ⟨v3, rfl, hW3, hf3, hk3⟩; have e3' := hf3.cell_some e3 hBB))
                  clear HT
                  have hW3 : WriterAt w3 w2.heap.size w2.heap.size v3 bs (some bs.length) := hW3
                  have hf3' : Fr (fun _ => False) w w3 := hf.trans hf3 (fun j hj h => by rcases h with h | h; (· omega); (· exact absurd h (hA j hj)))
                  obtain ⟨t, u, hu⟩ := errO_some ([((⟨#[119, 114, 105, 116, 101]⟩ : ByteArray), (bs.length : Int))], 2)
                  have hU : errW (some bs.length) = .iface t u := hu
                  clear hk3 hf3 hW cw cn e1 e2 hu
                  refine (writer_Bytes hW3 (by have := HBS.out; have := HSB.out; omega)).mono ?_
                  rintro e w4 ⟨v4, rfl, hv4, hf4⟩
                  have hv4 : Own8 w4 w3.heap.size v4 [] := hv4
                  have hf4' := hf3'.then_ hf4
                  obtain ⟨A4, cap4, rfl, hcap4, hr4⟩ := hv4.form
                  rw [hU]
                  clear hW3 hf4 hf3' hv4 hr4
                  go_wp2
                  go_ret
                  exact ⟨rfl, hf4'⟩

              · have HE : Hid (encO x = some []) := enc4 h0 h1 h2 h3
                have k3 : (bits .and .i64 x.what 3 == 3) = false := by rw [← hkd.out]; simpa using h3
                have HYB : Hid (bs.length ≤ 8200 * (k + 1) + wts (ops.take (k + 1))) := by
                  have h2 : wts (ops.take (k + 1)) = wts (ops.take k) + wt x := sum_take wt HX.out
                  have h3 := HBS.out
                  show _ ≤ _
                  omega
                clear h0 h1 h2 h3 cn e1 e2 e3
                go_wp2_with fail
                refine (writer_Bytes hW (by have := HBS.out; have := HSB.out; omega)).mono ?_
                rintro e w4 ⟨v4, rfl, hv4, hf4⟩
                have hv4 : Own8 w4 wr.heap.size v4 bs := hv4
                have hW4 := hW.fr hf4 id (fun _ _ => id)
                have hf4' := hf.then_ hf4
                obtain ⟨A4, cap4, rfl, hcap4, hr4⟩ := hv4.form
                have hcv2 := conv_bytes (w := w4) (n := bs.length) (cap := cap4) hr4 rfl
                have hne : ((bs.length : Int) != (bs.length : Int)) = false := by simp
                have hnil : errW none = .nilIface := rfl
                rw [hnil]
                clear hnil hW hf4 hv4
                cases A4 with
                | none =>
                  have hz : bs = [] := by
                    cases bs with
                    | nil => rfl
                    | cons y r => obtain ⟨_, _, e, _⟩ := hr4 0 y rfl; cases e
                  subst hz
                  clear hr4
                  rw [List.length_nil] at hcv2 hss hcap4
                  go_wp2_with fail
                  go_roundw
                  case rel => exact ⟨k + 1, [], v, by omega, by go_num, rfl, rfl, HYB.out, hW4, hf4'⟩
                  case measure => simp [intOf]; omega
                | some a4 =>
                  clear hr4
                  go_wp2_with fail
                  go_roundw
                  case rel => exact ⟨k + 1, bs, v, by omega, by go_num, rfl, rfl, HYB.out, hW4, hf4'⟩
                  case measure => simp [intOf]; omega
      · obtain rfl : k = ops.length := by omega
        clear hr hml hW
        go_wp2
        go_ret
        exact ⟨rfl, hf⟩
end Go.Proofs.YtkbcobbnjiekfaaDoor
