/- cohortlaw12: Sign. -/
import Derived.Test.YtcfanacfjcgnbaaGreatDoorSync
namespace Go.Proofs.YtcfanacfjcgnbaaGreatDoor
open Go Go.RowKit
/-- A type of what a call made for itself. -/
def Loc (t : TypeId) : Prop := Other t ∧ t ≠ 39 ∧ t ≠ 99 ∧ t ≠ 5
instance (t : TypeId) : Decidable (Loc t) := by unfold Loc; infer_instance
theorem WSAt.far {S : Nat → Prop} {w w' : World} {lo gw g m base : Nat} {v : Value} {L : List (List Int)} {gs ms : Nat} {SL : List (Int × Int)} {gD bD : Nat} {vD : Value} {LD : List (List Int)} {gQ bQ : Nat} {vQ : Value} {SQ : List (Int × Int)} (h : WSAt w lo gw g m base v L gs ms SL gD bD vD LD gQ bQ vQ SQ) (hf : Fr S w w') (hS : ∀ k, S k → ∃ cs t, Blk w k t cs ∧ Loc t) :
    WSAt w' lo gw g m base v L gs ms SL gD bD vD LD gQ bQ vQ SQ := by
  have hc : ∀ {k : Nat} {cs : Array Value} {t : TypeId} {f : Nat × Nat}, w.heap[k]? = some (.cells cs t f) → ¬ Loc t → ¬ S k := fun {k cs t f} hk hn hs => by
    obtain ⟨cs', t', hB, hl⟩ := hS k hs
    have := cells_inj hk hB
    subst this
    exact hn hl
  have hm : ∀ {k : Nat} {es : Array MapEntry} {cl : Nat}, w.heap[k]? = some (.map es cl) → ¬ S k := fun {k es cl} hk hs => by
    obtain ⟨cs', t', hB, hl⟩ := hS k hs
    unfold Blk at hB
    rw [hB] at hk
    cases hk
  obtain ⟨⟨es, cl, h1, _⟩, _⟩ := h.bs.book.map
  obtain ⟨es2, cl2, h2, _⟩ := h.bs.seals.map
  obtain ⟨vals, hown, _⟩ := h.rb.row
  refine ⟨h.blk.fr hf (hc h.blk (by decide)), ⟨h.bs.book.fr hf (hc h.bs.book.blk (by decide)) (hm h1) ?_, h.bs.seals.fr hf (hc h.bs.seals.blk (by decide)) (hm h2), h.bs.ne⟩, h.rb.fr hf (hc h.rb.blk (by decide)) ?_ ?_, h.rq.fr hf (hc h.rq.blk (by decide)) ?_, h.lo_g, h.lo_m, h.lo_b, h.lo_s, h.lo_D, h.lo_bD, h.lo_Q, h.lo_bQ, Nat.le_trans h.b_le hf.size, Nat.le_trans h.bD_le hf.size, Nat.le_trans h.bQ_le hf.size⟩
  · intro k hk
    obtain ⟨cs, hB⟩ := own_cells h.bs.book.own hk
    exact hc hB (by decide)
  · intro k hk
    obtain ⟨cs, hB⟩ := own_cells hown hk
    exact hc hB (by decide)
  · intro k ⟨cs, f, h3⟩
    exact hc h3 (by decide)
  · intro k hk
    obtain ⟨cs, hB⟩ := own_cells h.rq.own hk
    exact hc hB (by decide)
theorem St.far {S : Nat → Prop} {lo : Nat} {w wr w' : World} (h : St lo w wr) (hf : Fr S wr w') (hS : ∀ k, S k → w.heap.size ≤ k) (hlo : lo ≤ w.heap.size) : St lo w w' :=
  ⟨h.fr.trans hf (fun k _ hk => Nat.le_trans hlo (hS k hk)), fun k t cs hB ho => (h.blk k t cs hB ho).fr hf (fun hs => by have := hS k hs; have := hB.lt; omega)⟩
def bitOn (m : Int) (k : Nat) : Bool := bits .and .i64 (m / 2 ^ k) 1 == 1
/-- Who of the first k places of a group is in the mask signs d. -/
def signTo (gr mask d : Int) (SL : List (Int × Int)) : Nat → List (Int × Int)
  | 0 => SL
  | k + 1 => if bitOn mask k = true then signL (memberOf gr k) d (signTo gr mask d SL k) else signTo gr mask d SL k
theorem signL_len (who d : Int) (L : List (Int × Int)) : (signL who d L).length ≤ L.length + 1 := by
  unfold signL
  repeat' split
  all_goals simp
theorem signTo_len (gr mask d : Int) (SL : List (Int × Int)) : ∀ k, (signTo gr mask d SL k).length ≤ SL.length + k
  | 0 => Nat.le_refl _
  | k + 1 => by
    have h1 := signTo_len gr mask d SL k
    unfold signTo
    split
    · have := signL_len (memberOf gr k) d (signTo gr mask d SL k)
      omega
    · omega
theorem memberOf_le (g : Int) (k : Nat) : memberOf g k ≤ 9223372036854775807 := by
  unfold memberOf
  split <;> omega
def WSigned (w : World) (lo gw : Nat) (L : List (List Int)) (SL : List (Int × Int)) (LD : List (List Int)) (nQ : Nat) (e : Ending) (w' : World) : Prop :=
  ∃ r, e = .returned r ∧ WS w' lo gw L SL LD nQ ∧ St lo w w'
set_option maxRecDepth 100000 in
set_option maxHeartbeats 1000000 in
theorem law12_Sign {w : World} {lo gw : Nat} {L : List (List Int)} {SL : List (Int × Int)} {LD : List (List Int)} {nQ : Nat} (h : WS w lo gw L SL LD nQ) (hn : nQ < 131000) (gr mask d : Int) :
    Calls Tryz.prog 15 #[.pointer (some ⟨gw, 0, none⟩), .int .i64 gr, .int .i64 mask, .int .i64 d] w (WSigned w lo gw L (signTo gr mask d SL 10) LD (nQ + 10)) := by
  obtain ⟨g, m, base, v, gs, ms, gD, bD, vD, gQ, bQ, vQ, SQ, h, hq⟩ := h
  have hlo : lo ≤ w.heap.size := Nat.le_trans h.lo_b h.b_le
  have HQ : Hid (SQ.length ≤ nQ) := hq
  have HN : Hid (nQ < 131000) := hn
  clear hq hn
  go_enter Tryz.func15, Tryz.ntmps15
  go_upto_region 2 with fail
  generalize (if d < 0 then (0 : Int) else d) = dm
  have hB8 : Blk ((w.alloc (Obj.cells #[.int .i64 0, .int .i64 0, .slice none 0 0] 57)).alloc (Obj.cells #[.int .i64 gr, .int .i64 dm, .slice none 0 0] 57)) w.heap.size 57 #[.int .i64 0, .int .i64 0, .slice none 0 0] := (Blk.new w _ _).alloc _
  have hB9 : Blk ((w.alloc (Obj.cells #[.int .i64 0, .int .i64 0, .slice none 0 0] 57)).alloc (Obj.cells #[.int .i64 gr, .int .i64 dm, .slice none 0 0] 57)) (w.heap.size + 1) 57 #[.int .i64 gr, .int .i64 dm, .slice none 0 0] := Blk.new_ _ _ _ (by simp)
  have hf0 : Fr (fun _ => False) w ((w.alloc (Obj.cells #[.int .i64 0, .int .i64 0, .slice none 0 0] 57)).alloc (Obj.cells #[.int .i64 gr, .int .i64 dm, .slice none 0 0] 57)) := ((Fr.refl _ _).alloc _).alloc _
  have H0 := Lib.hid (h.keep hf0)
  have HST := Lib.hid (St.of lo hf0)
  have hn0 : ((w.alloc (Obj.cells #[.int .i64 0, .int .i64 0, .slice none 0 0] 57)).alloc (Obj.cells #[.int .i64 gr, .int .i64 dm, .slice none 0 0] 57)).ownsRow w.heap.size 3 1 (.slice none 0 0) 0 [] := ⟨rfl, .inl ⟨rfl, rfl⟩⟩
  clear h hf0
  go_wp2_with fail
  go_loopw [10] (fun ix wr => ∃ (k n : Nat) (vQ va : Value) (xs : List Value), k ≤ 10 ∧ n ≤ k ∧ ix = .int .i64 k ∧ WSAt wr lo gw g m base v L gs ms (signTo gr mask d SL k) gD bD vD LD gQ bQ vQ (signTo gr mask d SQ k) ∧ Blk wr w.heap.size 57 #[.int .i64 0, .int .i64 0, .slice none 0 0] ∧ Blk wr (w.heap.size + 1) 57 #[.int .i64 gr, .int .i64 dm, va] ∧ wr.ownsRow w.heap.size 3 1 va n xs ∧ St lo w wr) (fun ix _ => 10 - (intOf ix).toNat)
  case atStart => exact ⟨0, 0, vQ, .slice none 0 0, [], by omega, by omega, rfl, H0.out, hB8, hB9, hn0, HST.out⟩
  case round =>
    clear hB8 hB9 hn0
    obtain ⟨k, n, vQ, va, xs, hk, hnk, rfl, h, hB8, hB9, hown, hst⟩ := hrel
    obtain ⟨A, cap, rfl, _, _⟩ := own_form hown
    by_cases hlt : k < 10
    · cases hbit : bitOn mask k with
      | true =>
        have hb' : (bits .and .i64 (mask / 2 ^ k) 1 == 1) = true := hbit
        have HBI := Lib.hid hbit
        have c1 := h.blk.cell 1
        have hszq := signTo_len gr mask d SQ k
        have HSQ : Hid ((signTo gr mask d SQ k).length < 131072) := by have := HQ.out; have := HN.out; show _ < _; omega
        clear hbit hszq
        go_wp2_with (go_at_call 27; refine (ref04_Member gr k _).mono ?_; rintro e w' ⟨rfl, rfl⟩)
        refine (seals_Sign h.bs.seals (memberOf gr k) d (memberOf_le gr k)).mono ?_
        rintro e w2 ⟨rfl, hs2, hf2⟩
        obtain ⟨h2, hst2⟩ := h.step (h.bs.sealStep hs2 hf2) (hf2.mono (fun k _ e => .inr (.inr (.inr e))))
        generalize errO (signErr (memberOf gr k) d (signTo gr mask d SL k)) = rv
        have c3 := h2.blk.cell 3
        clear c1 hs2 hf2
        go_wp2_with fail
        refine (ref04_Sign h2.rq h2.bQ_le HSQ.out (memberOf gr k) d).mono ?_
        rintro e w3 ⟨v3, rfl, hr3, hf3⟩
        obtain ⟨h3, hst3⟩ := h2.stepQ hr3 hf3
        have hst13 := (hst.trans hst2).trans hst3
        have hst23 := hst2.trans hst3
        have hB83 := hst23.blk _ _ _ hB8 (by decide)
        have hB93 := hst23.blk _ _ _ hB9 (by decide)
        have hown3 := own_st hown hst23 (by decide)
        have hc2 := hB93.cell 2
        have hc2' := (hB93.alloc (Obj.cells #[.int .i64 k] 3)).cell 2
        have hle3 : w.heap.size ≤ w3.heap.size := hst13.fr.size
        clear c3 hr3 hf3 hB8 hB9 hown h h2 hst hst2 hst3 hst23
        go_wp2_with (at_builtin; go_loud (refine wpList_append1 _ rfl _ _ _ rfl w.heap.size 3 (.int .i64 0) 8 Tryz.underlying55 int_info rfl (.slice A n cap) _ _ rfl (hown3.alloc _) w3.heap.size (.int .i64 k) rfl ?_ rfl ?_ (by omega) ?_ ?_); (· simp); (· omega); (· simp; omega); intro g4 c4 w4 hown4 hf4; (have hB94 := (hB93.alloc (Obj.cells #[.int .i64 k] 3)).fr hf4 (own_ne_blk hown3 hB93 (by decide))); have d2 := hB94.cell 2; have z2 := hB94.frozen 2)
        go_roundw
        case rel =>
          have hfa : Fr (fun _ => False) w3 (w3.alloc (Obj.cells #[.int .i64 k] 3)) := (Fr.refl _ _).alloc _
          have hoa := own_fr hown3 hfa (fun _ _ => id)
          have hfs : Fr (fun j => j = w.heap.size + 1) w4 (w4.setCell ⟨w.heap.size + 1, 2, none⟩ (.slice (some ⟨g4, 0, none⟩) (n + 1) c4)) := (Fr.refl (fun j => j = w.heap.size + 1) w4).setCell (p := ⟨w.heap.size + 1, 2, none⟩) (fun _ => rfl) _
          have hB84 := (hB83.fr hfa id).fr hf4 (own_ne_blk hown3 hB83 (by decide))
          have e1 : signTo gr mask d SL (k + 1) = signL (memberOf gr k) d (signTo gr mask d SL k) := by rw [signTo, if_pos HBI.out]
          have e2 : signTo gr mask d SQ (k + 1) = signL (memberOf gr k) d (signTo gr mask d SQ k) := by rw [signTo, if_pos HBI.out]
          have hfar := ((h3.keep hfa).far hf4 (fun j hj => by
            obtain ⟨cs, hB⟩ := own_cells hoa hj
            exact ⟨cs, _, hB, by decide⟩)).far hfs (fun j hj => ⟨_, _, hj ▸ hB94, by decide⟩)
          refine ⟨k + 1, n + 1, v3, _, _, by omega, by omega, by go_num, ?_, hB84.fr hfs (fun e => by omega), hB94.set_ 2 _, own_fr hown4 hfs (fun j hj e => own_ne_blk hown4 hB94 (by decide) (e ▸ hj)), ?_⟩
          · rw [e1, e2]
            exact hfar
          · exact ((hst13.trans (St.of lo hfa)).far hf4 (fun j hj => own_ge hoa j hj) hlo).far hfs (fun j hj => by omega) hlo
        case measure => simp [intOf]; omega
      | false =>
        have hb' : (bits .and .i64 (mask / 2 ^ k) 1 == 1) = false := hbit
        have HBI := Lib.hid hbit
        clear hbit
        go_wp2_with fail
        go_roundw
        case rel =>
          have e1 : ∀ S, signTo gr mask d S (k + 1) = signTo gr mask d S k := fun S => by rw [signTo, if_neg (by rw [HBI.out]; decide)]
          exact ⟨k + 1, n, vQ, _, xs, by omega, by omega, by go_num, by rw [e1, e1]; exact h, hB8, hB9, hown, hst⟩
        case measure => simp [intOf]; omega
    · obtain rfl : k = 10 := by omega
      have d0 := hB9.cell 0
      have d1 := hB9.cell 1
      have d2 := hB9.cell 2
      have f0 := hB8.cell 0
      have f1 := hB8.cell 1
      have f2 := hB8.cell 2
      have z0 := hB8.frozen 0
      have z1 := hB8.frozen 1
      have z2 := hB8.frozen 2
      go_wp2_with fail
      have hBf := ((hB8.set_ 0 (.int .i64 gr)).set_ 1 (.int .i64 dm)).set_ 2 (.slice A n cap)
      have hff : Fr (fun j => j = w.heap.size) wr (((wr.setCell ⟨w.heap.size, 0, none⟩ (.int .i64 gr)).setCell ⟨w.heap.size, 1, none⟩ (.int .i64 dm)).setCell ⟨w.heap.size, 2, none⟩ (.slice A n cap)) := (((Fr.refl (fun j => j = w.heap.size) wr).setCell (p := ⟨w.heap.size, 0, none⟩) (fun _ => rfl) _).setCell (p := ⟨w.heap.size, 1, none⟩) (fun _ => rfl) _).setCell (p := ⟨w.heap.size, 2, none⟩) (fun _ => rfl) _
      generalize ((wr.setCell ⟨w.heap.size, 0, none⟩ (.int .i64 gr)).setCell ⟨w.heap.size, 1, none⟩ (.int .i64 dm)).setCell ⟨w.heap.size, 2, none⟩ (.slice A n cap) = wf at hBf hff ⊢
      have e0 := hBf.cell 0
      have e1 := hBf.cell 1
      have e2 := hBf.cell 2
      simp at e0 e1 e2
      refine bodyPost_ret (v := .agg #[.int .i64 gr, .int .i64 dm, .slice A n cap]) (by simp [results, Tryz.results15, go_sem, e0, e1, e2]) rfl ?_
      have hlq := signTo_len gr mask d SQ 10
      have := HQ.out
      exact ⟨_, rfl, ⟨g, m, base, v, gs, ms, gD, bD, vD, gQ, bQ, vQ, _, h.far hff (fun j hj => ⟨_, _, hj ▸ hB8, by decide⟩), by omega⟩, hst.far hff (fun j hj => by omega) hlo⟩
end Go.Proofs.YtcfanacfjcgnbaaGreatDoor
