/- cohortref02: the document's Writer: Nums, List, Bytes. -/
import Derived.Test.YtkbcobbnjiekfaaDoorRefW
import Derived.Deep.CutRange
namespace Go.Proofs.YtkbcobbnjiekfaaDoor
open Go Go.RowKit
set_option maxRecDepth 100000 in
set_option maxHeartbeats 400000 in
theorem refw_Nums {w : World} {g base : Nat} {v : Value} {bs : List Int} {bad : Option Nat} (h : RefW w g base v bs bad) (hbase : base ≤ w.heap.size) {l : List Int} {F : Nat → Prop} {A : Option Addr} {cap : Nat} (hr : NumRow w F A l) (hA : ∀ k, F k → v.ownBlock ≠ some k) (hFg : ¬ F g) (hll : l.length ≤ 9223372036854775807) (hb : bs.length + (numsB l).length ≤ 1099511627776 ∨ 1024 < l.length) :
    Calls Tryd.prog 28 #[.pointer (some ⟨g, 0, none⟩), .slice A l.length cap] w (RWrote w g base v (wput bs bad (if l.length ≤ 1024 then some (numsB l) else none)).1 (wput bs bad (if l.length ≤ 1024 then some (numsB l) else none)).2) := by
  by_cases hs : l.length ≤ 1024
  · rw [if_pos hs]
    have hs' : ¬ (1024 : Int) < (l.length : Int) := by omega
    have HB : Hid (bs.length + (4 + (l.flatMap num8).length) ≤ 1099511627776) := by simpa [numsB, count4_length, Hid] using hb.resolve_right (by omega)
    clear hb hs
    cases bad with
    | some a =>
      have c1 : w.cell? ⟨g, 1, none⟩ = some (.int .i64 2) := h.blk.cell 1
      simp only [wput]
      go_enter Tryd.func28, Tryd.ntmps28
      go_wp2
      refine bodyPost_ret (v := .tuple #[]) (by simp [results, Tryd.results28, go_sem]) rfl ?_
      exact ⟨_, rfl, h, Fr.refl _ _, fun k hk => .inl hk⟩
    | none =>
      obtain ⟨A0, cap0, rfl, _, _⟩ := h.own.form
      have c0 : w.cell? ⟨g, 0, none⟩ = some (.slice A0 bs.length cap0) := h.blk.cell 0
      have c1 : w.cell? ⟨g, 1, none⟩ = some (.int .i64 0) := h.blk.cell 1
      simp only [wput]
      obtain ⟨ys, hys⟩ : ∃ ys, bs ++ count4 l.length = ys := ⟨_, rfl⟩
      rw [numsB, ← List.append_assoc, hys]
      have HYL : Hid (ys.length = bs.length + 4) := by show _ = _; rw [← hys, List.length_append, count4_length]
      go_enter Tryd.func28, Tryd.ntmps28
      go_upto_region 3 with fail
      go_cut [] from 15 to 25 (fun wx => RWrote w g base (.slice A0 bs.length cap0) ys none (.returned (.tuple #[])) wx)
      case first =>
        go_region_law (first | (refine step_append_text rfl (.tmp 19) (.tmp 22) rfl base (.slice A0 bs.length cap0) bs (by rfl) ho1 (fun k => (Value.slice A1 (count4 l.length).length p1).ownBlock = some k) A1 (count4 l.length).length p1 (count4 l.length) (by rfl) rfl hr1 (by rw [count4_length]; have := HB.out; omega) hbs1 ?_; intro v2 w2 h2 hf2 hk2; rw [hys] at h2; obtain ⟨A2, p2, rfl, _, _⟩ := h2.form; have hb2 := hb1.fr hf2 (ho1.ne_blk hb1 (by decide)); have d0 := hb2.cell 0; have z0 := hb2.frozen 0) | (go_simp; go_at_call 61; refine (ref02_four _ _).mono ?_; rintro e w1 ⟨v1, rfl, h1, hf1⟩; obtain ⟨A1, p1, rfl, _, hr1⟩ := h1.form; have ho1 := h.own.drew.fr hf1 (fun _ _ => id); have hbs1 : base ≤ w1.heap.size := Nat.le_trans hbase hf1.size; have hb1 := h.blk.drew.fr hf1 id; have c01 : w1.cell? ⟨g, 0, none⟩ = some (.slice A0 bs.length cap0) := hb1.cell 0))
        all_goals go_wp2_with fail
        all_goals go_meet
        all_goals exact refw_done h hf1 h2 hf2 (hk2.imp_right fun e => ⟨_, e, hf1.size⟩)
      case rest =>
        obtain ⟨v2, _, h2, hf2, hk2⟩ := hcut
        clear c0 c1
        go_wp2_with fail
        go_loopw [4] (fun i wr => ∃ (k : Nat) (v3 : Value), k ≤ l.length ∧ i = .int .i64 k ∧ RefW wr g base v3 (ys ++ (l.take k).flatMap num8) none ∧ Fr (fun j => j = g ∨ (Value.slice A0 bs.length cap0).ownBlock = some j) w wr ∧ ∀ j, v3.ownBlock = some j → (Value.slice A0 bs.length cap0).ownBlock = some j ∨ w.heap.size ≤ j) (fun i _ => l.length - (intOf i).toNat)
        case atStart => exact ⟨0, v2, by omega, rfl, by simpa using h2, hf2, hk2⟩
        case round =>
          obtain ⟨k, v3, hk, rfl, h3, hf, hko⟩ := hrel
          by_cases hlt : k < l.length
          · obtain ⟨x, hx⟩ : ∃ x, l[k]? = some x := ⟨l[k], List.getElem?_eq_getElem hlt⟩
            obtain ⟨b, o, rfl, hFb, hc⟩ := hr k x hx
            have d0 := hf.cell_some hc (fun h => h.elim (fun e => hFg (e ▸ hFb)) (hA b hFb))
            have HX := Lib.hid hx
            have hsz := hf.size
            have hb2 : (ys ++ (l.take k).flatMap num8).length + 8 ≤ 1099511627776 := by
              have h1 := HB.out
              have h2 := flat_le1 num8 hx
              rw [num8_length] at h2
              have := HYL.out
              simp only [List.length_append]
              omega
            clear hr hc hx hys h2
            go_wp2_with (go_at_call 25; refine (refw_Num h3 (by omega) hb2 x).mono ?_; rintro e w4 ⟨v4, rfl, h4, hf4, hk4⟩)
            go_roundw
            case rel =>
              refine ⟨k + 1, v4, by omega, by go_num, by rw [flat_take num8 HX.out, ← List.append_assoc]; exact h4, hf.trans hf4 (fun j hj h => h.elim .inl (fun h => (hko j h).elim .inr (fun h => absurd hj (Nat.not_lt.2 h)))), ?_⟩
              intro j hj
              rcases hk4 j hj with h | h
              · exact hko j h
              · exact .inr (by omega)
            case measure => simp [intOf]; omega
          · obtain rfl : k = l.length := by omega
            rw [List.take_length] at h3
            go_wp2
            refine bodyPost_ret (v := .tuple #[]) (by simp [results, Tryd.results28, go_sem]) rfl ?_
            exact ⟨_, rfl, h3, hf, hko⟩
  · rw [if_neg hs, wput_none]
    have hs' : (1024 : Int) < (l.length : Int) := by omega
    have HB := refw_bad h
    clear hb hs
    go_enter Tryd.func28, Tryd.ntmps28
    go_wp2_with (go_at_call 60; refine HB.mono ?_; rintro e w1 ⟨v1, rfl, h1, hf1, hk1⟩; have c1 : w1.cell? ⟨g, 1, none⟩ = some (.int .i64 2) := h1.blk.cell 1)
    refine bodyPost_ret (v := .tuple #[]) (by simp [results, Tryd.results28, go_sem]) rfl ?_
    exact ⟨v1, rfl, h1, hf1, hk1⟩
def fineTo (l : List (List Int)) (k : Nat) : Bool := decide (l.length ≤ 1024) && !longs (l.take k)
theorem fineTo_step {l : List (List Int)} {k : Nat} {x : List Int} (h : fineTo l k = true) (hx : l[k]? = some x) : fineTo l (k + 1) = decide (x.length ≤ 65536) := by
  obtain ⟨h1, rfl⟩ := List.getElem?_eq_some_iff.1 hx
  unfold fineTo longs at h ⊢
  rw [List.take_succ_eq_append_getElem h1, List.any_append]
  simp only [Bool.and_eq_true, Bool.not_eq_true'] at h
  rw [h.1, h.2]
  by_cases hl : l[k].length ≤ 65536
  · simp [hl] <;> omega
  · simp [hl] <;> omega
theorem fineTo_all (l : List (List Int)) : fineTo l l.length = decide (l.length ≤ 1024 ∧ longs l = false) := by
  unfold fineTo
  rw [List.take_length]
  cases longs l <;> simp
theorem fineTo_good {l : List (List Int)} (h : l.length ≤ 1024 ∧ longs l = false) (k : Nat) : fineTo l k = true := by
  unfold fineTo
  have h2 : longs (l.take k) = false := by
    have h3 := h.2
    unfold longs at h3 ⊢
    rw [List.any_eq_false] at h3 ⊢
    exact fun x hx => h3 x (List.mem_of_mem_take hx)
  rw [h2, decide_eq_true h.1]
  rfl
set_option maxRecDepth 100000 in
set_option maxHeartbeats 400000 in
theorem refw_List {w : World} {g base : Nat} {v : Value} {bs : List Int} {bad : Option Nat} (h : RefW w g base v bs bad) (hbase : base ≤ w.heap.size) {l : List (List Int)} {F : Nat → Prop} {A : Option Addr} {cap : Nat} (hr : TextRow w F A l) (hA : ∀ k, F k → v.ownBlock ≠ some k) (hFg : ¬ F g) (hF : ∀ k, F k → k < w.heap.size) (hll : l.length ≤ 9223372036854775807) (hb : bs.length + (listB l).length ≤ 1099511627776 ∨ 1024 < l.length ∨ longs l = true) :
    Calls Tryd.prog 27 #[.pointer (some ⟨g, 0, none⟩), .slice A l.length cap] w (RWrote w g base v (wput bs bad (listO l)).1 (wput bs bad (listO l)).2) := by
  by_cases hs : l.length ≤ 1024 ∧ longs l = false
  · rw [listO, if_pos hs]
    have HS : Hid (l.length ≤ 1024) := hs.1
    have HG : Hid (∀ k, fineTo l k = true) := fineTo_good hs
    have hs1 : (l.length : Int) ≤ 1024 := by have := hs.1; omega
    have HB : Hid (bs.length + (4 + (l.flatMap textB).length) ≤ 1099511627776) := by
      have hb' := hb.resolve_right (by rintro (h | h); (· have := hs.1; omega); (· rw [hs.2] at h; cases h))
      simp only [listB, List.length_append, count4_length] at hb'
      exact hb'
    clear hb hs
    go_enter Tryd.func27, Tryd.ntmps27
    go_wp2_with fail
    go_loopw [4, 5] (fun m i wr => ∃ k : Nat, k ≤ l.length ∧ i = .int .i64 k ∧ m = .bool true ∧ w = wr) (fun _ i _ => l.length - (intOf i).toNat)
    case atStart => exact ⟨0, by omega, rfl, rfl, rfl⟩
    case round =>
      obtain ⟨k, hk, rfl, rfl, rfl⟩ := hrel
      by_cases hlt : k < l.length
      · obtain ⟨x, hx⟩ : ∃ x, l[k]? = some x := ⟨l[k], List.getElem?_eq_getElem hlt⟩
        obtain ⟨b, o, A', cap', rfl, hFb, hc, _⟩ := hr k x hx
        have hx2 : (x.length : Int) ≤ 65536 := by
          have h1 := fineTo_step (HG.out k) hx
          rw [HG.out] at h1
          have := of_decide_eq_true h1.symm
          omega
        clear hr h hx
        go_wp2_with fail
        go_roundw
        case rel => exact ⟨k + 1, by omega, by go_num, rfl, by trivial⟩
        case measure => simp [intOf]; omega
      · obtain rfl : k = l.length := by omega
        clear hlt
        cases bad with
        | some a =>
          have c1 : w.cell? ⟨g, 1, none⟩ = some (.int .i64 2) := h.blk.cell 1
          simp only [wput]
          go_wp2_with fail
          refine bodyPost_ret (v := .tuple #[]) (by simp [results, Tryd.results27, go_sem]) rfl ?_
          exact ⟨_, rfl, h, Fr.refl _ _, fun k hk => .inl hk⟩
        | none =>
          obtain ⟨A0, cap0, rfl, _, _⟩ := h.own.form
          have c0 : w.cell? ⟨g, 0, none⟩ = some (.slice A0 bs.length cap0) := h.blk.cell 0
          have c1 : w.cell? ⟨g, 1, none⟩ = some (.int .i64 0) := h.blk.cell 1
          simp only [wput]
          obtain ⟨ys, hys⟩ : ∃ ys, bs ++ count4 l.length = ys := ⟨_, rfl⟩
          have HYL : Hid (ys.length = bs.length + 4) := by show _ = _; rw [← hys, List.length_append, count4_length]
          go_upto_region 8 with fail
          go_cut [] from 34 to 44 (fun wx => RWrote w g base (.slice A0 bs.length cap0) ys none (.returned (.tuple #[])) wx)
          case first =>
            go_region_law (first | (refine step_append_text rfl (.tmp 38) (.tmp 41) rfl base (.slice A0 bs.length cap0) bs (by rfl) ho1 (fun k => (Value.slice A1 (count4 l.length).length p1).ownBlock = some k) A1 (count4 l.length).length p1 (count4 l.length) (by rfl) rfl hr1 (by rw [count4_length]; have := HB.out; omega) hbs1 ?_; intro v2 w2 h2 hf2 hk2; rw [hys] at h2; obtain ⟨A2, p2, rfl, _, _⟩ := h2.form; have hb2 := hb1.fr hf2 (ho1.ne_blk hb1 (by decide)); have d0 := hb2.cell 0; have z0 := hb2.frozen 0) | (go_simp; go_at_call 61; refine (ref02_four _ _).mono ?_; rintro e w1 ⟨v1, rfl, h1, hf1⟩; obtain ⟨A1, p1, rfl, _, hr1⟩ := h1.form; have ho1 := h.own.drew.fr hf1 (fun _ _ => id); have hbs1 : base ≤ w1.heap.size := Nat.le_trans hbase hf1.size; have hb1 := h.blk.drew.fr hf1 id; have c01 : w1.cell? ⟨g, 0, none⟩ = some (.slice A0 bs.length cap0) := hb1.cell 0))
            all_goals go_wp2_with fail
            all_goals go_meet
            all_goals exact refw_done h hf1 h2 hf2 (hk2.imp_right fun e => ⟨_, e, hf1.size⟩)
          case rest =>
            obtain ⟨v2, _, h2, hf2, hk2⟩ := hcut
            clear c0 c1
            go_wp2_with fail
            go_loopw [6] (fun i wr => ∃ (k : Nat) (v3 : Value), k ≤ l.length ∧ i = .int .i64 k ∧ RefW wr g base v3 (ys ++ (l.take k).flatMap textB) none ∧ Fr (fun j => j = g ∨ (Value.slice A0 bs.length cap0).ownBlock = some j) w wr ∧ ∀ j, v3.ownBlock = some j → (Value.slice A0 bs.length cap0).ownBlock = some j ∨ w.heap.size ≤ j) (fun i _ => l.length - (intOf i).toNat)
            case atStart => exact ⟨0, v2, by omega, rfl, by simpa using h2, hf2, hk2⟩
            case round =>
              obtain ⟨k, v3, hk, rfl, h3, hf, hko⟩ := hrel
              by_cases hlt : k < l.length
              · obtain ⟨x, hx⟩ : ∃ x, l[k]? = some x := ⟨l[k], List.getElem?_eq_getElem hlt⟩
                obtain ⟨b, o, A', cap', rfl, hFb, hc, hrx⟩ := hr k x hx
                have hFn : ∀ j, F j → ¬ (j = g ∨ (Value.slice A0 bs.length cap0).ownBlock = some j) := fun j hj h => h.elim (fun e => hFg (e ▸ hj)) (hA j hj)
                have hrx1 := hrx.fr hf hFn
                have d0 := hf.cell_some hc (hFn b hFb)
                have hx2 : x.length ≤ 65536 := by
                  have h1 := fineTo_step (HG.out k) hx
                  rw [HG.out] at h1
                  exact of_decide_eq_true h1.symm
                have HX := Lib.hid hx
                have hsz := hf.size
                have hA3 : ∀ j, F j → v3.ownBlock ≠ some j := fun j hj e => (hko j e).elim (hA j hj) (fun h => absurd (hF j hj) (by omega))
                have hb2 : (ys ++ (l.take k).flatMap textB).length + 4 + x.length ≤ 1099511627776 := by
                  have h1 := HB.out
                  have h2 := flat_le1 textB hx
                  simp only [textB, List.length_append, count4_length] at h2
                  have := HYL.out
                  simp only [List.length_append]
                  omega
                have HT := refw_Text (cap := cap') h3 (by omega) hrx1 hA3 (by omega) (.inl hb2)
                rw [if_pos hx2] at HT
                simp only [wput] at HT
                clear hr hc hx hys h2 hx2 hrx hrx1 hb2
                go_wp2_with (go_at_call 26; refine HT.mono ?_; rintro e w4 ⟨v4, rfl, h4, hf4, hk4⟩)
                go_roundw
                case rel =>
                  refine ⟨k + 1, v4, by omega, by go_num, by rw [flat_take textB HX.out, ← List.append_assoc]; exact h4, hf.trans hf4 (fun j hj h => h.elim .inl (fun h => (hko j h).elim .inr (fun h => absurd hj (Nat.not_lt.2 h)))), ?_⟩
                  intro j hj
                  rcases hk4 j hj with h | h
                  · exact hko j h
                  · exact .inr (by omega)
                case measure => simp [intOf]; omega
              · obtain rfl : k = l.length := by omega
                rw [List.take_length] at h3
                go_wp2
                refine bodyPost_ret (v := .tuple #[]) (by simp [results, Tryd.results27, go_sem]) rfl ?_
                refine ⟨_, rfl, ?_, hf, hko⟩
                show RefW wr g base v3 (bs ++ listB l) none
                rw [listB, ← List.append_assoc, hys]
                exact h3
  · rw [listO, if_neg hs, wput_none]
    have HN : Hid (fineTo l l.length = false) := by show _ = _; rw [fineTo_all]; exact decide_eq_false hs
    have HB := refw_bad h
    have hst : (Value.bool (decide ((l.length : Int) ≤ 1024))) = .bool (fineTo l 0) := by
      unfold fineTo longs
      simp
      omega
    clear hb hs
    go_enter Tryd.func27, Tryd.ntmps27
    go_wp2_with fail
    go_loopw [4, 5] (fun m i wr => ∃ k : Nat, k ≤ l.length ∧ i = .int .i64 k ∧ m = .bool (fineTo l k) ∧ w = wr) (fun _ i _ => l.length - (intOf i).toNat)
    case atStart => exact ⟨0, by omega, rfl, by first | rfl | exact hst, rfl⟩
    case round =>
      obtain ⟨k, hk, rfl, rfl, rfl⟩ := hrel
      cases hfk : fineTo l k with
      | true =>
        have hlt : k < l.length := by
          apply Classical.byContradiction
          intro hn
          obtain rfl : k = l.length := by omega
          rw [HN.out] at hfk
          cases hfk
        obtain ⟨x, hx⟩ : ∃ x, l[k]? = some x := ⟨l[k], List.getElem?_eq_getElem hlt⟩
        obtain ⟨b, o, A', cap', rfl, hFb, hc, _⟩ := hr k x hx
        have HF : Hid (fineTo l (k + 1) = decide (x.length ≤ 65536)) := fineTo_step hfk hx
        clear hr h hx hst hfk HB
        go_wp2_with fail
        go_roundw
        case rel => exact ⟨k + 1, by omega, by go_num, by rw [HF.out]; simp; omega, by trivial⟩
        case measure => simp [intOf]; omega
      | false =>
        clear hst hfk
        by_cases hlt : k < l.length
        · go_wp2_with (go_at_call 60; refine HB.mono ?_; rintro e w1 ⟨v1, rfl, h1, hf1, hk1⟩; have c1 : w1.cell? ⟨g, 1, none⟩ = some (.int .i64 2) := h1.blk.cell 1)
          refine bodyPost_ret (v := .tuple #[]) (by simp [results, Tryd.results27, go_sem]) rfl ?_
          exact ⟨v1, rfl, h1, hf1, hk1⟩
        · go_wp2_with (go_at_call 60; refine HB.mono ?_; rintro e w1 ⟨v1, rfl, h1, hf1, hk1⟩; have c1 : w1.cell? ⟨g, 1, none⟩ = some (.int .i64 2) := h1.blk.cell 1)
          refine bodyPost_ret (v := .tuple #[]) (by simp [results, Tryd.results27, go_sem]) rfl ?_
          exact ⟨v1, rfl, h1, hf1, hk1⟩
set_option maxRecDepth 100000 in
theorem refw_Bytes {w : World} {g base : Nat} {v : Value} {bs : List Int} {bad : Option Nat} (h : RefW w g base v bs bad) (hl : bs.length ≤ 1099511627776) :
    Calls Tryd.prog 29 #[.pointer (some ⟨g, 0, none⟩)] w (Fresh w (wbytes bs bad)) := by
  cases bad with
  | some a =>
    have c1 : w.cell? ⟨g, 1, none⟩ = some (.int .i64 2) := h.blk.cell 1
    go_enter Tryd.func29, Tryd.ntmps29
    go_wp2
    go_ret
    exact ⟨_, rfl, Own8.nil _ _, Fr.refl _ _⟩
  | none =>
    obtain ⟨A, cap, rfl, _, hr⟩ := h.own.form
    have c0 : (w.alloc (Obj.cells #[] 5)).cell? ⟨g, 0, none⟩ = some (.slice A bs.length cap) := (h.blk.alloc _).cell 0
    have c1 : w.cell? ⟨g, 1, none⟩ = some (.int .i64 0) := h.blk.cell 1
    have hr1 := hr.fr ((Fr.refl (fun _ => False) w).alloc (Obj.cells #[] 5)) (fun _ _ => id)
    go_enter Tryd.func29, Tryd.ntmps29
    go_wp2_with (at_builtin; refine wpList_append_text rfl (.tmp 8) (.tmp 12) rfl w.heap.size _ [] rfl (Own8.built w (Nat.le_refl _) [] (by simp) 0 rfl) _ A bs.length cap bs rfl rfl hr1 (by simpa using hl) (by simp) ?_; intro v2 w2 h2 hf2 hk2)
    go_ret
    exact ⟨v2, rfl, by simpa [wbytes] using h2, ((Fr.refl (fun _ => False) w).alloc _).trans hf2 (fun k hk h => by cases h; exact absurd hk (Nat.lt_irrefl _))⟩
end Go.Proofs.YtkbcobbnjiekfaaDoor
