/- cohortlaw02.WireWrites: the walk. -/
import Derived.Test.YtkbcobbnjiekfaaDoorTold02
import Derived.Test.YtkbcobbnjiekfaaDoorRefL
import Derived.Test.YtkbcobbnjiekfaaDoorWall
namespace Go.Proofs.YtkbcobbnjiekfaaDoor
open Go Go.RowKit
theorem wpAnyH_mono {P : Program} {md : Region.Mode} {ops : Array Oper} {Q : Exit → Act → World → Prop} {S S' : World → Prop} (h : ∀ w, S' w → S w) : ∀ (fuel : Nat) (listed : Array Bool) (a : Act) (w : World), wpAnyH P md ops Q S' fuel listed a w → wpAnyH P md ops Q S fuel listed a w
  | 0, _, _, _, hh => hh
  | fuel + 1, _, _, _, hh => ⟨hh.1, fun i hi => wpOp_mono (fun a' w' h' => ⟨h _ h'.1, wpAnyH_mono h fuel _ a' w' h'.2⟩) (hh.2 i hi)⟩
theorem wpAnyH_takeAt {P : Program} {md : Region.Mode} {ops : Array Oper} {Q : Exit → Act → World → Prop} {S : World → Prop} {i : Nat} {oi : Oper} {v : Value} {fuel : Nat} {listed : Array Bool} {a : Act} {w : World} (d : Option Tmp) (hi : ops[i]? = some oi) (hd : oi.dst = d)
    (hs : Region.noSelect ops = true) (hf : Region.free md ops listed i = true) (hr : (Region.ready md ops listed).contains i = true)
    (hQ : ∀ c a w, Q (.panic c) (a.put d v) w → Q (.panic c) a w) (hy : YieldsIf P ops S oi v a) (hS : S w)
    (h : wpAnyH P md ops Q S fuel (listed.setIfInBounds i true) (a.put d v) w) : wpAnyH P md ops Q S (fuel + 1) listed a w := by
  subst hd
  exact wpAnyH_take hi hs hf hr hQ hy hS h
theorem pair_first {w w1 : World} {g g' base : Nat} {v u v1 : Value} {bs : List Int} {bad : Option Nat} (hW : WriterAt w g base v bs bad) (hD : RefW w g' base u bs bad) (hne : g ≠ g') (hnb : ∀ k, v.ownBlock = some k → u.ownBlock ≠ some k) (hf : Fr (fun k => k = g ∨ v.ownBlock = some k) w w1) (hk : ∀ k, v1.ownBlock = some k → v.ownBlock = some k ∨ w.heap.size ≤ k) :
    RefW w1 g' base u bs bad ∧ ∀ k, v1.ownBlock = some k → u.ownBlock ≠ some k := by
  refine ⟨hD.fr hf (fun h => h.elim (fun e => hne e.symm) (hW.own.ne_blk hD.blk (by decide))) (fun k e h => h.elim (fun e2 => hD.own.ne_blk hW.blk (by decide) (e2 ▸ e)) (fun h => hnb k h e)), fun k h e => ?_⟩
  rcases hk k h with h | h
  · exact hnb k h e
  · exact absurd (hD.own.lt k e) (Nat.not_lt.2 h)
theorem pair_second {w1 w2 : World} {g g' base : Nat} {v1 u u2 : Value} {bs bs1 : List Int} {bad bad1 : Option Nat} (hW1 : WriterAt w1 g base v1 bs1 bad1) (hD1 : RefW w1 g' base u bs bad) (hne : g ≠ g') (hnb : ∀ k, v1.ownBlock = some k → u.ownBlock ≠ some k) (hf : Fr (fun k => k = g' ∨ u.ownBlock = some k) w1 w2) (hk : ∀ k, u2.ownBlock = some k → u.ownBlock = some k ∨ w1.heap.size ≤ k) :
    WriterAt w2 g base v1 bs1 bad1 ∧ ∀ k, v1.ownBlock = some k → u2.ownBlock ≠ some k := by
  refine ⟨hW1.fr hf (fun h => h.elim hne (hD1.own.ne_blk hW1.blk (by decide))) (fun k e h => h.elim (fun e2 => hW1.own.ne_blk hD1.blk (by decide) (e2 ▸ e)) (hnb k e)), fun k h e => ?_⟩
  rcases hk k e with e | e
  · exact hnb k h e
  · exact absurd (hW1.own.lt k h) (Nat.not_lt.2 e)
set_option maxRecDepth 100000 in
set_option maxHeartbeats 2000000 in
theorem wireWrites_walk {w : World} (hG0 : Laid w) {A : Option Addr} {cap : Nat} {ops : List OpD} (hr : OpRow w (fun k => k < w.heap.size) A ops) (hll : ops.length ≤ 9223372036854775807) (hml : ∀ x ∈ ops, x.s.length ≤ 9223372036854775807 ∧ x.l.length ≤ 9223372036854775807 ∧ x.m.length ≤ 9223372036854775807) :
    Calls Tryd.prog 6 #[.slice A ops.length cap] w (Fine w true) := by
  have hGb : 0 < w.heap.size := World.block_lt_of_cell? w _ hG0
  go_enter Tryd.func6, Tryd.ntmps6
  go_wp2_with fail
  refine (law02_head hG0).mono ?_
  rintro e w1 ⟨rfl, hf1⟩
  go_wp2_with fail
  refine (law02_Great (hr.fr hf1 (fun _ _ => id)) hll hml).mono ?_
  rintro e w2 ⟨⟨b, rfl, hb⟩, hf12⟩
  have hf2 := hf1.then_ hf12
  clear hf1 hf12
  cases b with
  | true =>
    clear hr hml hb
    go_wp2
    go_ret
    exact ⟨rfl, hf2⟩
  | false =>
    have HS := Lib.hid (hb rfl)
    have hf3 : Fr (fun _ => False) w ((w2.alloc (Obj.cells #[.slice none 0 0, .nilIface] 28)).alloc (Obj.cells #[.slice none 0 0, .int .i64 0, .int .i64 0] 56)) := (hf2.alloc _).alloc _
    have hW0 : WriterAt ((w2.alloc (Obj.cells #[.slice none 0 0, .nilIface] 28)).alloc (Obj.cells #[.slice none 0 0, .int .i64 0, .int .i64 0] 56)) w2.heap.size w2.heap.size (.slice none 0 0) [] none := ⟨(Blk.new _ _ _).alloc _, Own8.nil _ _⟩
    have hD0 : RefW ((w2.alloc (Obj.cells #[.slice none 0 0, .nilIface] 28)).alloc (Obj.cells #[.slice none 0 0, .int .i64 0, .int .i64 0] 56)) (w2.heap.size + 1) w2.heap.size (.slice none 0 0) [] none := ⟨Blk.new_ _ _ _ (by simp), Own8.nil _ _⟩
    have hsz2 := hf2.size
    clear hb
    go_wp2_with fail
    go_loopw [6] (fun i wr => ∃ (k : Nat) (v u : Value), k ≤ ops.length ∧ i = .int .i64 k ∧ (wall (ops.take k)).1.length ≤ 8200 * k + wts (ops.take k) ∧ WriterAt wr w2.heap.size w2.heap.size v (wall (ops.take k)).1 (wall (ops.take k)).2 ∧ RefW wr (w2.heap.size + 1) w2.heap.size u (wall (ops.take k)).1 (wall (ops.take k)).2 ∧ (∀ j, v.ownBlock = some j → u.ownBlock ≠ some j) ∧ Fr (fun _ => False) w wr) (fun i _ => ops.length - (intOf i).toNat)
    case atStart => exact ⟨0, _, _, by omega, rfl, by simp [wall], hW0, hD0, (fun j h => by cases h), hf3⟩
    case round =>
      obtain ⟨k, v, u, hk, rfl, hbs, hW, hD, hnb, hf⟩ := hrel
      by_cases hlt : k < ops.length
      · obtain ⟨x, hx⟩ : ∃ x, ops[k]? = some x := ⟨ops[k], List.getElem?_eq_getElem hlt⟩
        obtain ⟨bb, o, rfl, hFb, hop0⟩ := hr k x hx
        have hop := hop0.fr hf id (fun _ _ => id)
        obtain ⟨hs0, hl0, hm0⟩ := hml x (List.mem_of_getElem? hx)
        have HBS := Lib.hid hbs
        have HSB := Lib.hid (small_bound HS.out hx)
        have HLE := Lib.hid (wall_length hx hbs)
        have hsz : w2.heap.size ≤ wr.heap.size := Nat.le_of_lt hW.blk.lt
        have HA : Hid (∀ j, j < w.heap.size → v.ownBlock ≠ some j) := fun j hj e => by have := own_ge hW.own j e; omega
        have HU : Hid (∀ j, j < w.heap.size → u.ownBlock ≠ some j) := fun j hj e => by have := own_ge hD.own j e; omega
        have HNB := Lib.hid hnb
        have cw := hop.what
        have cn := hop.n
        obtain ⟨A1, c1, e1, r1⟩ := hop.s
        obtain ⟨A2, c2, e2, r2⟩ := hop.l
        obtain ⟨A3, c3, e3, r3⟩ := hop.m
        have e01 := hop0.fr (S := fun _ => False) (Fr.refl _ _) id (fun _ _ => id)
        have hkd : Hid (kindOf x = bits .and .i64 x.what 3) := rfl
        have hTK : Hid (wall (ops.take (k + 1)) = wput (wall (ops.take k)).1 (wall (ops.take k)).2 (encO x)) := wall_take hx
        clear hr hx hop e01 hml hbs hnb
        generalize wall (ops.take k) = st at hTK hW hD HBS
        obtain ⟨bs, bad⟩ := st
        simp only at hTK hW hD HBS
        by_cases h0 : kindOf x = 0
        · have t0 : bits .and .i64 x.what 3 = 0 := hkd.out ▸ h0
          have HE := Lib.hid (enc0 h0)
          clear h0 e1 e2 e3 r1 r2 r3
          have HT := writer_Num hW hsz (by have := HBS.out; have := HSB.out; have : wt x = x.s.length + lens x.l := rfl; omega) x.n
          go_wp2_with (first | (go_at_call 10; (refine HT.mono ?_; rintro e w3 ⟨v3, rfl, hW3, hf3, hk3⟩; obtain ⟨hD3, hnb3⟩ := pair_first hW hD (Nat.ne_of_lt (Nat.lt_succ_self _)) HNB.out hf3 hk3; have HNB3 := Lib.hid hnb3; clear hnb3; have hfw3 := hf.trans hf3 (fun j hj h => by rcases h with h | h; (· omega); (· exact absurd h (HA.out j hj))); have hsz3 := hf3.size; have hop3 := hop0.fr hfw3 id (fun _ _ => id); have cn3 := hop3.n; have HR := refw_Num hD3 (by omega) (by have := HBS.out; have := HSB.out; have : wt x = x.s.length + lens x.l := rfl; omega) x.n)) | (go_at_call 25; (refine HR.mono ?_; rintro e w4 ⟨u4, rfl, hD4, hf4, hk4⟩; obtain ⟨hW4, hnb4⟩ := pair_second hW3 hD3 (Nat.ne_of_lt (Nat.lt_succ_self _)) HNB3.out hf4 hk4)))
          go_roundw
          case rel =>
            refine ⟨k + 1, v3, u4, by omega, by go_num, HLE.out, by rw [hTK.out, HE.out]; exact hW4, by rw [hTK.out, HE.out]; exact hD4, hnb4, hfw3.trans hf4 (fun j hj h => by rcases h with h | h; (· omega); (· exact absurd h (HU.out j hj)))⟩
          case measure => simp [intOf]; omega
        · have k0 : (bits .and .i64 x.what 3 == 0) = false := by rw [← hkd.out]; simpa using h0
          by_cases h1 : kindOf x = 1
          · have t0 : bits .and .i64 x.what 3 = 1 := hkd.out ▸ h1
            have HE := Lib.hid (enc1 h1)
            clear h0 h1 k0 e2 e3 r2 r3 cn
            have HT := writer_Text (cap := c1) hW hsz r1 HA.out (by have := HBS.out; have := HSB.out; have : wt x = x.s.length + lens x.l := rfl; omega)
            go_wp2_with (first | (go_at_call 17; (refine HT.mono ?_; rintro e w3 ⟨v3, rfl, hW3, hf3, hk3⟩; obtain ⟨hD3, hnb3⟩ := pair_first hW hD (Nat.ne_of_lt (Nat.lt_succ_self _)) HNB.out hf3 hk3; have HNB3 := Lib.hid hnb3; clear hnb3; have hfw3 := hf.trans hf3 (fun j hj h => by rcases h with h | h; (· omega); (· exact absurd h (HA.out j hj))); have hsz3 := hf3.size; have hop3 := hop0.fr hfw3 id (fun _ _ => id); obtain ⟨B1, d1, y1, q1⟩ := hop3.s; have HR := refw_Text (cap := d1) hD3 (by omega) q1 HU.out hs0 (.inl (by have := HBS.out; have := HSB.out; have : wt x = x.s.length + lens x.l := rfl; omega)))) | (go_at_call 26; (refine HR.mono ?_; rintro e w4 ⟨u4, rfl, hD4, hf4, hk4⟩; obtain ⟨hW4, hnb4⟩ := pair_second hW3 hD3 (Nat.ne_of_lt (Nat.lt_succ_self _)) HNB3.out hf4 hk4)))
            go_roundw
            case rel =>
              refine ⟨k + 1, v3, u4, by omega, by go_num, HLE.out, by rw [hTK.out, HE.out]; exact hW4, by rw [hTK.out, HE.out]; exact hD4, hnb4, hfw3.trans hf4 (fun j hj h => by rcases h with h | h; (· omega); (· exact absurd h (HU.out j hj)))⟩
            case measure => simp [intOf]; omega
          · have k1 : (bits .and .i64 x.what 3 == 1) = false := by rw [← hkd.out]; simpa using h1
            by_cases h2 : kindOf x = 2
            · have t0 : bits .and .i64 x.what 3 = 2 := hkd.out ▸ h2
              have HE := Lib.hid (enc2 h2)
              have hLB : Hid (bs.length + (listB x.l).length ≤ 1099511627776 ∨ 1024 < x.l.length ∨ longs x.l = true) := by
                by_cases hl1 : x.l.length ≤ 1024
                · exact .inl (by rw [listB_length]; have := HBS.out; have := HSB.out; have : wt x = x.s.length + lens x.l := rfl; omega)
                · exact .inr (.inl (by omega))
              clear h0 h1 h2 k0 k1 e1 e3 r1 r3 cn
              have HT := writer_List (cap := c2) hW hsz r2 HA.out (fun j hj => by omega) hl0 hLB.out
              go_wp2_with (first | (go_at_call 18; (refine HT.mono ?_; rintro e w3 ⟨v3, rfl, hW3, hf3, hk3⟩; obtain ⟨hD3, hnb3⟩ := pair_first hW hD (Nat.ne_of_lt (Nat.lt_succ_self _)) HNB.out hf3 hk3; have HNB3 := Lib.hid hnb3; clear hnb3; have hfw3 := hf.trans hf3 (fun j hj h => by rcases h with h | h; (· omega); (· exact absurd h (HA.out j hj))); have hsz3 := hf3.size; have hop3 := hop0.fr hfw3 id (fun _ _ => id); obtain ⟨B2, d2, y2, q2⟩ := hop3.l; have HR := refw_List (cap := d2) hD3 (by omega) q2 HU.out (by omega) (fun j hj => by omega) hl0 hLB.out)) | (go_at_call 27; (refine HR.mono ?_; rintro e w4 ⟨u4, rfl, hD4, hf4, hk4⟩; obtain ⟨hW4, hnb4⟩ := pair_second hW3 hD3 (Nat.ne_of_lt (Nat.lt_succ_self _)) HNB3.out hf4 hk4)))
              go_roundw
              case rel =>
                refine ⟨k + 1, v3, u4, by omega, by go_num, HLE.out, by rw [hTK.out, HE.out]; exact hW4, by rw [hTK.out, HE.out]; exact hD4, hnb4, hfw3.trans hf4 (fun j hj h => by rcases h with h | h; (· omega); (· exact absurd h (HU.out j hj)))⟩
              case measure => simp [intOf]; omega
            · have k2 : (bits .and .i64 x.what 3 == 2) = false := by rw [← hkd.out]; simpa using h2
              by_cases h3 : kindOf x = 3
              · have t0 : bits .and .i64 x.what 3 = 3 := hkd.out ▸ h3
                have HE := Lib.hid (enc3 h3)
                have hLB : Hid (bs.length + (numsB x.m).length ≤ 1099511627776 ∨ 1024 < x.m.length) := by
                  by_cases hl1 : x.m.length ≤ 1024
                  · exact .inl (by rw [numsB_length]; have := HBS.out; have := HSB.out; have : wt x = x.s.length + lens x.l := rfl; omega)
                  · exact .inr (by omega)
                clear h0 h1 h2 h3 k0 k1 k2 e1 e2 r1 r2 cn
                have HT := writer_Nums (cap := c3) hW hsz r3 HA.out hm0 hLB.out
                go_wp2_with (first | (go_at_call 19; (refine HT.mono ?_; rintro e w3 ⟨v3, rfl, hW3, hf3, hk3⟩; obtain ⟨hD3, hnb3⟩ := pair_first hW hD (Nat.ne_of_lt (Nat.lt_succ_self _)) HNB.out hf3 hk3; have HNB3 := Lib.hid hnb3; clear hnb3; have hfw3 := hf.trans hf3 (fun j hj h => by rcases h with h | h; (· omega); (· exact absurd h (HA.out j hj))); have hsz3 := hf3.size; have hop3 := hop0.fr hfw3 id (fun _ _ => id); obtain ⟨B3, d3, y3, q3⟩ := hop3.m; have HR := refw_Nums (cap := d3) hD3 (by omega) q3 HU.out (by omega) hm0 hLB.out)) | (go_at_call 28; (refine HR.mono ?_; rintro e w4 ⟨u4, rfl, hD4, hf4, hk4⟩; obtain ⟨hW4, hnb4⟩ := pair_second hW3 hD3 (Nat.ne_of_lt (Nat.lt_succ_self _)) HNB3.out hf4 hk4)))
                go_roundw
                case rel =>
                  refine ⟨k + 1, v3, u4, by omega, by go_num, HLE.out, by rw [hTK.out, HE.out]; exact hW4, by rw [hTK.out, HE.out]; exact hD4, hnb4, hfw3.trans hf4 (fun j hj h => by rcases h with h | h; (· omega); (· exact absurd h (HU.out j hj)))⟩
                case measure => simp [intOf]; omega
              · have k3 : (bits .and .i64 x.what 3 == 3) = false := by rw [← hkd.out]; simpa using h3
                have HE := Lib.hid (enc4 h0 h1 h2 h3)
                clear h0 h1 h2 h3
                go_wp2_with fail
                go_roundw
                case rel =>
                  refine ⟨k + 1, v, u, by omega, by go_num, HLE.out, ?_, ?_, HNB.out, hf⟩
                  · rw [hTK.out, HE.out, wput_nil]
                    exact hW
                  · rw [hTK.out, HE.out, wput_nil]
                    exact hD
                case measure => simp [intOf]; omega
      · obtain rfl : k = ops.length := by omega
        rw [List.take_length] at hbs hW hD
        have HL : Hid ((wall ops).1.length ≤ 200000000) := by
          have := HS.out
          unfold Small at this
          show _ ≤ _
          omega
        clear hr hml hbs hnb
        generalize wall ops = st at HL hW hD
        obtain ⟨bs, bad⟩ := st
        simp only at HL hW hD
        go_wp2_with fail
        refine (writer_Bytes hW (by have := HL.out; omega)).mono ?_
        rintro e w4 ⟨v4, rfl, hv4, hf4⟩
        have hD4 := hD.fr hf4 id (fun _ _ => id)
        have hf4' := hf.then_ hf4
        have hG4 := hG0.fr hf4' id
        obtain ⟨ys, hys⟩ : ∃ ys, Hid (wbytes bs bad = ys) := ⟨_, rfl⟩
        rw [hys.out] at hv4
        obtain ⟨A4, cap4, rfl, _, hr4⟩ := hv4.form
        have HB := @refw_Bytes w4.drew (w2.heap.size + 1) w2.heap.size u bs bad (hD4.fr ((Fr.refl (fun _ => False) w4).drew) id (fun _ _ => id)) (by have := HL.out; omega)
        rw [hys.out] at HB
        clear hv4 hf4 hW hD
        go_wp2_with fail
        have five : ∀ w', Fr (fun _ => False) w4 w' → w'.cell? ⟨w2.heap.size + 1, 1, none⟩ = some (.int .i64 (badC bad)) ∧ w'.cell? ⟨w2.heap.size + 1, 2, none⟩ = some (.int .i64 (badA bad)) ∧ (convert 24 9 (.slice A4 ys.length cap4)).run Tryd.prog w' = .ok (.string (strOfNums ys)) w' := fun w' h => ⟨(hD4.blk.fr h id).cell 1, (hD4.blk.fr h id).cell 2, conv_bytes (hr4.fr h (fun _ _ => id)) rfl⟩
        have f4 : Fr (fun _ => False) w4 w4.drew := (Fr.refl _ _).drew
        refine wp_region_noPanic ?_
        refine wp_region_held_drew (S := fun w' => w'.cell? ⟨w2.heap.size + 1, 1, none⟩ = some (.int .i64 (badC bad)) ∧ w'.cell? ⟨w2.heap.size + 1, 2, none⟩ = some (.int .i64 (badA bad)) ∧ (convert 24 9 (.slice A4 ys.length cap4)).run Tryd.prog w' = .ok (.string (strOfNums ys)) w') (by kernel_rfl) (five _ f4) (fun hHeld => ?_)
        refine wpAnyH_takeAt (i := 0) (v := ?v0) (some 98) rfl rfl (by kernel_rfl) (by kernel_rfl) (by kernel_rfl) (fun _ _ _ h => h) (Or.inl ⟨by rfl, ?hy0⟩) (by assumption) ?rest0
        case hy0 => (intro w hSw; (try dsimp only at hSw); go_simp; all_goals with_reducible rfl)
        simp only [Act.put, List.setIfInBounds_toArray, List.set_cons_zero, List.set_cons_succ]
        refine wpAnyH_takeAt (i := 1) (v := ?v1) (some 99) rfl rfl (by kernel_rfl) (by kernel_rfl) (by kernel_rfl) (fun _ _ _ h => h) (Or.inl ⟨by rfl, ?hy1⟩) (by assumption) ?rest1
        case hy1 => (intro w hSw; (try dsimp only at hSw); go_simp; all_goals with_reducible rfl)
        simp only [Act.put, List.setIfInBounds_toArray, List.set_cons_zero, List.set_cons_succ]
        refine wpAnyH_takeAt (i := 2) (v := ?v2) (some 100) rfl rfl (by kernel_rfl) (by kernel_rfl) (by kernel_rfl) (fun _ _ _ h => h) (Or.inl ⟨by rfl, ?hy2⟩) (by assumption) ?rest2
        case hy2 => (intro w hSw; (try dsimp only at hSw); go_simp; all_goals with_reducible rfl)
        simp only [Act.put, List.setIfInBounds_toArray, List.set_cons_zero, List.set_cons_succ]
        refine wpAnyH_takeAt (i := 4) (v := ?v4) (some 102) rfl rfl (by kernel_rfl) (by kernel_rfl) (by kernel_rfl) (fun _ _ _ h => h) (Or.inl ⟨by rfl, ?hy4⟩) (by assumption) ?rest4
        case hy4 => (intro w hSw; (try dsimp only at hSw); go_simp; all_goals with_reducible rfl)
        simp only [Act.put, List.setIfInBounds_toArray, List.set_cons_zero, List.set_cons_succ]
        refine wpAnyH_takeAt (i := 3) (v := ?v3) (some 101) rfl rfl (by kernel_rfl) (by kernel_rfl) (by kernel_rfl) (fun _ _ _ h => h) (Or.inl ⟨by rfl, ?hy3⟩) (by assumption) ?rest3
        case hy3 => (intro w hSw; (try dsimp only at hSw); go_simp; all_goals with_reducible rfl)
        simp only [Act.put, List.setIfInBounds_toArray, List.set_cons_zero, List.set_cons_succ]
        refine wpAnyH_ready (rs := [5]) (by kernel_rfl) (by simp) ?_
        refine AllReadyH.cons rfl (fun K hK => ?_) AllReadyH.nil
        go_simp
        go_at_call 29
        refine HB.mono ?_; rintro e w5 ⟨v5, rfl, h5, hf5⟩; obtain ⟨A5, cap5, rfl, _, hr5⟩ := h5.form; have f5 := f4.then_ hf5
        try go_wp2_with fail
        refine hK.out _ _ (five _ f5) (fun hHeld => ?_)
        clear hK K
        have six : ∀ w', Fr (fun _ => False) w5 w' → (w'.cell? ⟨w2.heap.size + 1, 1, none⟩ = some (.int .i64 (badC bad)) ∧ w'.cell? ⟨w2.heap.size + 1, 2, none⟩ = some (.int .i64 (badA bad)) ∧ (convert 24 9 (.slice A4 ys.length cap4)).run Tryd.prog w' = .ok (.string (strOfNums ys)) w') ∧ (convert 24 9 (.slice A5 ys.length cap5)).run Tryd.prog w' = .ok (.string (strOfNums ys)) w' := fun w' h => ⟨five _ (f5.then_ h), conv_bytes (hr5.fr h (fun _ _ => id)) rfl⟩
        refine wpAnyH_mono (S' := fun w' => (w'.cell? ⟨w2.heap.size + 1, 1, none⟩ = some (.int .i64 (badC bad)) ∧ w'.cell? ⟨w2.heap.size + 1, 2, none⟩ = some (.int .i64 (badA bad)) ∧ (convert 24 9 (.slice A4 ys.length cap4)).run Tryd.prog w' = .ok (.string (strOfNums ys)) w') ∧ (convert 24 9 (.slice A5 ys.length cap5)).run Tryd.prog w' = .ok (.string (strOfNums ys)) w') (fun _ h => h.1) _ _ _ _ ?_
        have hHeld2 := six w5 (Fr.refl _ _)
        refine wpAnyH_takeAt (i := 6) (v := ?v6) (some 104) rfl rfl (by kernel_rfl) (by kernel_rfl) (by kernel_rfl) (fun _ _ _ h => h) (Or.inl ⟨by rfl, ?hy6⟩) (by assumption) ?rest6
        case hy6 => (intro w hSw; (try dsimp only at hSw); go_simp; all_goals with_reducible rfl)
        simp only [Act.put, List.setIfInBounds_toArray, List.set_cons_zero, List.set_cons_succ]
        refine wpAnyH_takeAt (i := 7) (v := ?v7) (some 105) rfl rfl (by kernel_rfl) (by kernel_rfl) (by kernel_rfl) (fun _ _ _ h => h) (Or.inl ⟨by rfl, ?hy7⟩) (by assumption) ?rest7
        case hy7 => (intro w hSw; (try dsimp only at hSw); go_simp; all_goals with_reducible rfl)
        simp only [Act.put, List.setIfInBounds_toArray, List.set_cons_zero, List.set_cons_succ]
        refine wpAnyH_takeAt (i := 8) (v := ?v8) (some 106) rfl rfl (by kernel_rfl) (by kernel_rfl) (by kernel_rfl) (fun _ _ _ h => h) (Or.inl ⟨by rfl, ?hy8⟩) (by assumption) ?rest8
        case hy8 => (intro w hSw; (try dsimp only at hSw); go_simp; all_goals with_reducible rfl)
        simp only [Act.put, List.setIfInBounds_toArray, List.set_cons_zero, List.set_cons_succ]
        refine wpAnyH_takeAt (i := 9) (v := ?v9) (some 107) rfl rfl (by kernel_rfl) (by kernel_rfl) (by kernel_rfl) (fun _ _ _ h => h) (Or.inl ⟨by rfl, ?hy9⟩) (by assumption) ?rest9
        case hy9 => (intro w hSw; (try dsimp only at hSw); go_simp; all_goals with_reducible rfl)
        simp only [Act.put, List.setIfInBounds_toArray, List.set_cons_zero, List.set_cons_succ]
        refine wpAnyH_takeAt (i := 10) (v := ?v10) (some 108) rfl rfl (by kernel_rfl) (by kernel_rfl) (by kernel_rfl) (fun _ _ _ h => h) (Or.inl ⟨by rfl, ?hy10⟩) (by assumption) ?rest10
        case hy10 => (intro w hSw; (try dsimp only at hSw); go_simp; all_goals with_reducible rfl)
        simp only [Act.put, List.setIfInBounds_toArray, List.set_cons_zero, List.set_cons_succ]
        refine wpAnyH_takeAt (i := 11) (v := ?v11) (some 109) rfl rfl (by kernel_rfl) (by kernel_rfl) (by kernel_rfl) (fun _ _ _ h => h) (Or.inl ⟨by rfl, ?hy11⟩) (by assumption) ?rest11
        case hy11 => (intro w hSw; (try dsimp only at hSw); go_simp; all_goals with_reducible rfl)
        simp only [Act.put, List.setIfInBounds_toArray, List.set_cons_zero, List.set_cons_succ]
        refine wpAnyH_takeAt (i := 12) (v := ?v12) (some 110) rfl rfl (by kernel_rfl) (by kernel_rfl) (by kernel_rfl) (fun _ _ _ h => h) (Or.inl ⟨by rfl, ?hy12⟩) (by assumption) ?rest12
        case hy12 => (intro w hSw; (try dsimp only at hSw); go_simp; all_goals with_reducible rfl)
        simp only [Act.put, List.setIfInBounds_toArray, List.set_cons_zero, List.set_cons_succ]
        refine wpAnyH_takeAt (i := 13) (v := ?v13) (some 111) rfl rfl (by kernel_rfl) (by kernel_rfl) (by kernel_rfl) (fun _ _ _ h => h) (Or.inl ⟨by rfl, ?hy13⟩) (by assumption) ?rest13
        case hy13 => (intro w hSw; (try dsimp only at hSw); go_simp; all_goals with_reducible rfl)
        simp only [Act.put, List.setIfInBounds_toArray, List.set_cons_zero, List.set_cons_succ]
        refine wpAnyH_takeAt (i := 14) (v := ?v14) (some 112) rfl rfl (by kernel_rfl) (by kernel_rfl) (by kernel_rfl) (fun _ _ _ h => h) (Or.inl ⟨by rfl, ?hy14⟩) (by assumption) ?rest14
        case hy14 => (intro w hSw; (try dsimp only at hSw); go_simp; all_goals with_reducible rfl)
        simp only [Act.put, List.setIfInBounds_toArray, List.set_cons_zero, List.set_cons_succ]
        refine wpAnyH_takeAt (i := 15) (v := ?v15) (some 113) rfl rfl (by kernel_rfl) (by kernel_rfl) (by kernel_rfl) (fun _ _ _ h => h) (Or.inl ⟨by rfl, ?hy15⟩) (by assumption) ?rest15
        case hy15 => (intro w hSw; (try dsimp only at hSw); go_simp; all_goals with_reducible rfl)
        simp only [Act.put, List.setIfInBounds_toArray, List.set_cons_zero, List.set_cons_succ]
        refine wpAnyH_takeAt (i := 16) (v := ?v16) (some 114) rfl rfl (by kernel_rfl) (by kernel_rfl) (by kernel_rfl) (fun _ _ _ h => h) (Or.inl ⟨by rfl, ?hy16⟩) (by assumption) ?rest16
        case hy16 => (intro w hSw; (try dsimp only at hSw); go_simp; all_goals with_reducible rfl)
        simp only [Act.put, List.setIfInBounds_toArray, List.set_cons_zero, List.set_cons_succ]
        refine wpAnyH_takeAt (i := 17) (v := ?v17) (some 115) rfl rfl (by kernel_rfl) (by kernel_rfl) (by kernel_rfl) (fun _ _ _ h => h) (Or.inl ⟨by rfl, ?hy17⟩) (by assumption) ?rest17
        case hy17 => (intro w hSw; (try dsimp only at hSw); go_simp; all_goals with_reducible rfl)
        simp only [Act.put, List.setIfInBounds_toArray, List.set_cons_zero, List.set_cons_succ]
        refine wpAnyH_takeAt (i := 18) (v := ?v18) (some 116) rfl rfl (by kernel_rfl) (by kernel_rfl) (by kernel_rfl) (fun _ _ _ h => h) (Or.inl ⟨by rfl, ?hy18⟩) (by assumption) ?rest18
        case hy18 => (intro w hSw; (try dsimp only at hSw); go_simp; all_goals with_reducible rfl)
        simp only [Act.put, List.setIfInBounds_toArray, List.set_cons_zero, List.set_cons_succ]
        refine wpAnyH_takeAt (i := 19) (v := ?v19) (some 117) rfl rfl (by kernel_rfl) (by kernel_rfl) (by kernel_rfl) (fun _ _ _ h => h) (Or.inl ⟨by rfl, ?hy19⟩) (by assumption) ?rest19
        case hy19 => (intro w hSw; (try dsimp only at hSw); go_simp; all_goals with_reducible rfl)
        simp only [Act.put, List.setIfInBounds_toArray, List.set_cons_zero, List.set_cons_succ]
        refine wpAnyH_ready (rs := [20]) (by kernel_rfl) (by simp) ?_
        refine AllReadyH.cons rfl (fun K hK => ?_) AllReadyH.nil
        go_simp
        go_at_call 30
        refine (told02_any (hG4.fr f5 id) bad).mono ?_; rintro e w6 ⟨rfl, hf6⟩; have f6 := f5.then_ hf6
        try go_wp2_with fail
        refine hK.out _ _ (six _ hf6) (fun hHeld => ?_)
        clear hK K
        refine wpAnyH_takeAt (i := 21) (v := ?v21) (some 119) rfl rfl (by kernel_rfl) (by kernel_rfl) (by kernel_rfl) (fun _ _ _ h => h) (Or.inl ⟨by rfl, ?hy21⟩) (by assumption) ?rest21
        case hy21 => (intro w hSw; (try dsimp only at hSw); go_simp; all_goals with_reducible rfl)
        simp only [Act.put, List.setIfInBounds_toArray, List.set_cons_zero, List.set_cons_succ]
        refine wpAnyH_takeAt (i := 22) (v := ?v22) (some 2) rfl rfl (by kernel_rfl) (by kernel_rfl) (by kernel_rfl) (fun _ _ _ h => h) (Or.inl ⟨by rfl, ?hy22⟩) (by assumption) ?rest22
        case hy22 => (intro w hSw; (try dsimp only at hSw); go_simp; all_goals with_reducible rfl)
        simp only [Act.put, List.setIfInBounds_toArray, List.set_cons_zero, List.set_cons_succ]
        refine wpAnyH_done (by kernel_rfl) ?_ _
        refine NoPanic.normal ?_
        go_wp2
        go_ret
        exact ⟨rfl, hf4'.then_ f6⟩
end Go.Proofs.YtkbcobbnjiekfaaDoor
