/- cohortref10: Right, Put. -/
import Derived.Test.YtcfanacfjcgnbaaGreatDoorTxnP
import Derived.BigQuiet
namespace Go.Proofs.YtcfanacfjcgnbaaGreatDoor
open Go Go.RowKit
def TNo (c n : Int) (R : List (ByteArray × Int)) (W : List (ByteArray × ByteArray)) : Prop := decide (TOk c n R W) = false
set_option maxRecDepth 100000 in
set_option maxHeartbeats 4000000 in
theorem ref10_Right {w : World} {F : Nat → Prop} {A B : Option Addr} {cr cw : Nat} {c n : Int} {R : List (ByteArray × Int)} {W : List (ByteArray × ByteArray)} (hr : ReadRow w F A R) (hw : WriteRow w F B W) :
    Calls Tryz.prog 8 #[.agg #[.int .i64 c, .int .i64 n, .slice A R.length cr, .slice B W.length cw]] w (OkB w (decide (TOk c n R W))) := by
  by_cases t0 : c < 0
  · rw [decide_eq_false (p := TOk c n R W) (fun h => by have := h.1; omega)]
    clear hr hw
    go_enter Tryz.func8, Tryz.ntmps8
    go_wp2_with fail
    go_ret
    exact ⟨rfl, (Fr.refl _ _).alloc _⟩
  by_cases t1 : 16 ≤ c
  · rw [decide_eq_false (p := TOk c n R W) (fun h => by have := h.2.1; omega)]
    clear hr hw
    go_enter Tryz.func8, Tryz.ntmps8
    go_wp2_with fail
    go_ret
    exact ⟨rfl, (Fr.refl _ _).alloc _⟩
  by_cases t2 : n < 1
  · rw [decide_eq_false (p := TOk c n R W) (fun h => by have := h.2.2.1; omega)]
    clear hr hw
    go_enter Tryz.func8, Tryz.ntmps8
    go_wp2_with fail
    go_ret
    exact ⟨rfl, (Fr.refl _ _).alloc _⟩
  by_cases t3 : 1099511627776 < n
  · rw [decide_eq_false (p := TOk c n R W) (fun h => by have := h.2.2.2.1; omega)]
    clear hr hw
    go_enter Tryz.func8, Tryz.ntmps8
    go_wp2_with fail
    go_ret
    exact ⟨rfl, (Fr.refl _ _).alloc _⟩
  by_cases t4 : (8 : Int) < (R.length : Int)
  · rw [decide_eq_false (p := TOk c n R W) (fun h => by have := rises_len h.2.2.2.2.2.1; omega)]
    clear hr hw
    go_enter Tryz.func8, Tryz.ntmps8
    go_wp2_with fail
    go_ret
    exact ⟨rfl, (Fr.refl _ _).alloc _⟩
  by_cases t5 : (8 : Int) < (W.length : Int)
  · rw [decide_eq_false (p := TOk c n R W) (fun h => by have := rises_len h.2.2.2.2.2.2; omega)]
    clear hr hw
    go_enter Tryz.func8, Tryz.ntmps8
    go_wp2_with fail
    go_ret
    exact ⟨rfl, (Fr.refl _ _).alloc _⟩
  by_cases t6 : R.length = 0 ∧ W.length = 0
  · rw [decide_eq_false (p := TOk c n R W) (fun h => by have := h.2.2.2.2.1; omega)]
    have q1 : ((R.length : Int) == 0) = true := by simpa using List.length_eq_zero_iff.1 t6.1
    have q2 : ((W.length : Int) == 0) = true := by simpa using List.length_eq_zero_iff.1 t6.2
    clear hr hw t6
    go_enter Tryz.func8, Tryz.ntmps8
    go_wp2_with fail
    go_ret
    exact ⟨rfl, (Fr.refl _ _).alloc _⟩
  have T6 := Lib.hid t6
  have hq : (((R.length : Int) == 0) = false) ∨ (((R.length : Int) == 0) = true ∧ ((W.length : Int) == 0) = false) := by
    by_cases hr0 : R.length = 0
    · exact .inr ⟨by simpa using List.length_eq_zero_iff.1 hr0, beq_eq_false_iff_ne.2 (fun e => t6 ⟨hr0, by omega⟩)⟩
    · exact .inl (beq_eq_false_iff_ne.2 (fun e => hr0 (by omega)))
  clear t6
  have hB0 := Blk.new w 25 #[.int .i64 c, .int .i64 n, .slice A R.length cr, .slice B W.length cw]
  have hf0 : Fr (fun _ => False) w (w.alloc (Obj.cells #[.int .i64 c, .int .i64 n, .slice A R.length cr, .slice B W.length cw] 25)) := (Fr.refl _ _).alloc _
  obtain ⟨gB, hgB⟩ : ∃ g, Hid (w.heap.size = g) := ⟨_, rfl⟩
  have HRr := Lib.hid hr
  have HWr := Lib.hid hw
  clear hr hw
  rcases hq with hq | ⟨hq, hq2⟩
  · go_enter Tryz.func8, Tryz.ntmps8
    go_wp2_with fail
    rw [hgB.out] at hB0 ⊢
    generalize w.alloc (Obj.cells #[.int .i64 c, .int .i64 n, .slice A R.length cr, .slice B W.length cw] 25) = w0 at *
    go_loopw [3] (fun ix wr => ∃ k : Nat, k ≤ R.length ∧ ix = .int .i64 k ∧ Hid (okTo readOk R k = true) ∧ Blk wr gB 25 #[.int .i64 c, .int .i64 n, .slice A R.length cr, .slice B W.length cw] ∧ Fr (fun _ => False) w wr) (fun ix _ => R.length - (intOf ix).toNat)
    case atStart => exact ⟨0, by omega, rfl, rfl, hB0, hf0⟩
    case round =>
      clear hB0 hf0
      obtain ⟨k, hk, rfl, hok, hB0, hf0⟩ := hrel
      have hcl := hB0.cell 2
      by_cases hlt : k < R.length
      · obtain ⟨x, hx⟩ : ∃ x, R[k]? = some x := ⟨R[k], List.getElem?_eq_getElem hlt⟩
        obtain ⟨b, o, rfl, hFb, e0, e1⟩ := HRr.out k x hx
        have d0 := hf0.cell_some e0 id
        have d1 := hf0.cell_some e1 id
        have HX := Lib.hid hx
        have hBn := hB0.alloc (Obj.cells #[.string x.1, .int .i64 x.2] 74)
        have hfn := hf0.alloc (Obj.cells #[.string x.1, .int .i64 x.2] 74)
        have hcn := hBn.cell 2
        have x0 := (Blk.new wr 74 #[.string x.1, .int .i64 x.2]).cell 0
        have x1 := (Blk.new wr 74 #[.string x.1, .int .i64 x.2]).cell 1
        clear hx e0 e1
        by_cases c16 : (16 : Int) < x.1.size
        · have c16' : decide ((16 : Int) < x.1.size) = true := decide_eq_true c16
          have eo : okAt readOk R k = false := by unfold okAt; rw [HX.out]; simp [c16]
          have hno := rises_no _ hlt eo
          have HNO := Lib.hid (show decide (TOk c n R W) = false from decide_eq_false (fun h => by rw [h.2.2.2.2.2.1] at hno; cases hno))
          clear eo hno
          clear c16
          go_wp2_with fail
          go_big_quiet (fail)
          go_wp2_with fail
          go_ret
          exact ⟨by rw [HNO.out]; rfl, hfn.drewN _⟩
        · have c16' : decide ((16 : Int) < x.1.size) = false := decide_eq_false c16
          by_cases v0 : x.2 < 0
          · have v0' : decide (x.2 < 0) = true := decide_eq_true v0
            have hrf : readOk x = false := by unfold readOk; rw [decide_eq_false (p := 0 ≤ x.2) (by omega)]; rfl
            have eo : okAt readOk R k = false := by unfold okAt; rw [HX.out]; simp [hrf]
            have hno := rises_no _ hlt eo
            have HNO := Lib.hid (show decide (TOk c n R W) = false from decide_eq_false (fun h => by rw [h.2.2.2.2.2.1] at hno; cases hno))
            clear eo hno
            clear c16 v0 hrf
            go_wp2_with fail
            go_big_quiet (fail)
            go_wp2_with fail
            go_ret
            exact ⟨by rw [HNO.out]; rfl, hfn.drewN _⟩
          · have v0' : decide (x.2 < 0) = false := decide_eq_false v0
            by_cases v1 : 1099511627776 < x.2
            · have v1' : decide (1099511627776 < x.2) = true := decide_eq_true v1
              have hrf : readOk x = false := by unfold readOk; rw [decide_eq_false (p := x.2 ≤ 1099511627776) (by omega), Bool.and_false]
              have eo : okAt readOk R k = false := by unfold okAt; rw [HX.out]; simp [hrf]
              have hno := rises_no _ hlt eo
              have HNO := Lib.hid (show decide (TOk c n R W) = false from decide_eq_false (fun h => by rw [h.2.2.2.2.2.1] at hno; cases hno))
              clear eo hno
              clear c16 v0 v1 hrf
              go_wp2_with fail
              go_big_quiet (fail)
              go_wp2_with fail
              go_ret
              exact ⟨by rw [HNO.out]; rfl, hfn.drewN _⟩
            · have v1' : decide (1099511627776 < x.2) = false := decide_eq_false v1
              have hro : readOk x = true := by unfold readOk; rw [decide_eq_true (p := 0 ≤ x.2) (by omega), decide_eq_true (p := x.2 ≤ 1099511627776) (by omega)]; rfl
              rcases k with _ | j
              · have HEO := Lib.hid (show okAt readOk R 0 = true by unfold okAt; rw [HX.out]; simp [hro, c16])
                clear hro c16 v0 v1
                simp only [Nat.zero_mul, Nat.add_zero] at d0 d1
                go_wp2_with fail
                go_big_quiet (fail)
                go_wp2_with fail
                go_roundw
                case rel => exact ⟨1, by omega, by go_num, okTo_succ _ hok.out HEO.out, hBn.drewN _, hfn.drewN _⟩
                case measure => simp [intOf]; omega
              · obtain ⟨y, hy⟩ : ∃ y, R[j]? = some y := ⟨R[j]'(by omega), List.getElem?_eq_getElem (by omega)⟩
                obtain ⟨b', o', e1, _, g0, _⟩ := HRr.out j y hy
                cases e1
                have y0 := hfn.cell_some g0 id
                have hroS : okAt readOk R (j + 1) = strLess y.1 x.1 := by unfold okAt; rw [HX.out]; dsimp only; rw [hy]; simp [hro, c16]
                have qk : decide ((0 : Int) < ((j + 1 : Nat) : Int)) = true := decide_eq_true (by omega)
                have qj : ((j + 1 : Nat) : Int) - 1 = (j : Int) := by omega
                have qj0 : (0 : Int) ≤ (j : Int) := by omega
                have qjw : IntKind.i64.wrap (j : Int) = (j : Int) := wrap_i64 j (by omega)
                have qj1 : (j : Int) < (R.length : Int) := by omega
                cases hsl : Op.bytesLess y.1.toList x.1.toList with
                | false =>
                  have hno := rises_no _ hlt (hroS.trans hsl)
                  have HNO := Lib.hid (show decide (TOk c n R W) = false from decide_eq_false (fun h => by rw [h.2.2.2.2.2.1] at hno; cases hno))
                  clear hro hroS hno hy g0 c16 v0 v1
                  go_wp2_with fail
                  go_big_quiet (fail)
                  go_wp2_with fail
                  go_ret
                  exact ⟨by rw [HNO.out]; rfl, hfn.drewN _⟩
                | true =>
                  have HEO := Lib.hid (hroS.trans hsl)
                  clear hro hroS hy g0 c16 v0 v1
                  go_wp2_with fail
                  go_big_quiet (fail)
                  go_wp2_with fail
                  go_roundw
                  case rel => exact ⟨j + 1 + 1, by omega, by go_num, okTo_succ _ hok.out HEO.out, hBn.drewN _, hfn.drewN _⟩
                  case measure => simp [intOf]; omega
      · obtain rfl : k = R.length := by omega
        have hri : rises readOk R = true := by unfold rises; rw [hok.out, decide_eq_true (by omega)]; rfl
        have HRIR := Lib.hid hri
        clear hri hlt hok
        go_wp2_with fail
        go_loopw [5] (fun ix wr => ∃ k : Nat, k ≤ W.length ∧ ix = .int .i64 k ∧ Hid (okTo writeOk W k = true) ∧ Blk wr gB 25 #[.int .i64 c, .int .i64 n, .slice A R.length cr, .slice B W.length cw] ∧ Fr (fun _ => False) w wr) (fun ix _ => W.length - (intOf ix).toNat)
        case atStart => exact ⟨0, by omega, rfl, rfl, hB0, hf0⟩
        case round =>
          clear hB0 hf0
          obtain ⟨k, hk, rfl, hok, hB0, hf0⟩ := hrel
          have hcl := hB0.cell 3
          by_cases hlt : k < W.length
          · obtain ⟨x, hx⟩ : ∃ x, W[k]? = some x := ⟨W[k], List.getElem?_eq_getElem hlt⟩
            obtain ⟨b, o, rfl, hFb, e0, e1⟩ := HWr.out k x hx
            have d0 := hf0.cell_some e0 id
            have d1 := hf0.cell_some e1 id
            have HX := Lib.hid hx
            have hBn := hB0.alloc (Obj.cells #[.string x.1, .string x.2] 50)
            have hfn := hf0.alloc (Obj.cells #[.string x.1, .string x.2] 50)
            have hcn := hBn.cell 3
            have x0 := (Blk.new wr 50 #[.string x.1, .string x.2]).cell 0
            have x1 := (Blk.new wr 50 #[.string x.1, .string x.2]).cell 1
            clear hx e0 e1
            by_cases c16 : (16 : Int) < x.1.size
            · have c16' : decide ((16 : Int) < x.1.size) = true := decide_eq_true c16
              have eo : okAt writeOk W k = false := by unfold okAt; rw [HX.out]; simp [c16]
              have hno := rises_no _ hlt eo
              have HNO := Lib.hid (show decide (TOk c n R W) = false from decide_eq_false (fun h => by rw [h.2.2.2.2.2.2] at hno; cases hno))
              clear eo hno
              clear c16
              go_wp2_with fail
              go_big_quiet (fail)
              go_wp2_with fail
              go_ret
              exact ⟨by rw [HNO.out]; rfl, hfn.drewN _⟩
            · have c16' : decide ((16 : Int) < x.1.size) = false := decide_eq_false c16
              by_cases v0 : (64 : Int) < x.2.size
              · have v0' : decide ((64 : Int) < x.2.size) = true := decide_eq_true v0
                have hrf : writeOk x = false := decide_eq_false (by omega)
                have eo : okAt writeOk W k = false := by unfold okAt; rw [HX.out]; simp [hrf]
                have hno := rises_no _ hlt eo
                have HNO := Lib.hid (show decide (TOk c n R W) = false from decide_eq_false (fun h => by rw [h.2.2.2.2.2.2] at hno; cases hno))
                clear eo hno
                clear c16 v0 hrf
                go_wp2_with fail
                go_big_quiet (fail)
                go_wp2_with fail
                go_ret
                exact ⟨by rw [HNO.out]; rfl, hfn.drewN _⟩
              · have v0' : decide ((64 : Int) < x.2.size) = false := decide_eq_false v0
                have hro : writeOk x = true := decide_eq_true (by omega)
                rcases k with _ | j
                · have HEO := Lib.hid (show okAt writeOk W 0 = true by unfold okAt; rw [HX.out]; simp [hro, c16])
                  clear hro c16 v0
                  simp only [Nat.zero_mul, Nat.add_zero] at d0 d1
                  go_wp2_with fail
                  go_big_quiet (fail)
                  go_wp2_with fail
                  go_roundw
                  case rel => exact ⟨1, by omega, by go_num, okTo_succ _ hok.out HEO.out, hBn.drewN _, hfn.drewN _⟩
                  case measure => simp [intOf]; omega
                · obtain ⟨y, hy⟩ : ∃ y, W[j]? = some y := ⟨W[j]'(by omega), List.getElem?_eq_getElem (by omega)⟩
                  obtain ⟨b', o', e1, _, g0, _⟩ := HWr.out j y hy
                  cases e1
                  have y0 := hfn.cell_some g0 id
                  have hroS : okAt writeOk W (j + 1) = strLess y.1 x.1 := by unfold okAt; rw [HX.out]; dsimp only; rw [hy]; simp [hro, c16]
                  have qk : decide ((0 : Int) < ((j + 1 : Nat) : Int)) = true := decide_eq_true (by omega)
                  have qj : ((j + 1 : Nat) : Int) - 1 = (j : Int) := by omega
                  have qj0 : (0 : Int) ≤ (j : Int) := by omega
                  have qjw : IntKind.i64.wrap (j : Int) = (j : Int) := wrap_i64 j (by omega)
                  have qj1 : (j : Int) < (W.length : Int) := by omega
                  cases hsl : Op.bytesLess y.1.toList x.1.toList with
                  | false =>
                    have hno := rises_no _ hlt (hroS.trans hsl)
                    have HNO := Lib.hid (show decide (TOk c n R W) = false from decide_eq_false (fun h => by rw [h.2.2.2.2.2.2] at hno; cases hno))
                    clear hro hroS hno hy g0 c16 v0
                    go_wp2_with fail
                    go_big_quiet (fail)
                    go_wp2_with fail
                    go_ret
                    exact ⟨by rw [HNO.out]; rfl, hfn.drewN _⟩
                  | true =>
                    have HEO := Lib.hid (hroS.trans hsl)
                    clear hro hroS hy g0 c16 v0
                    go_wp2_with fail
                    go_big_quiet (fail)
                    go_wp2_with fail
                    go_roundw
                    case rel => exact ⟨j + 1 + 1, by omega, by go_num, okTo_succ _ hok.out HEO.out, hBn.drewN _, hfn.drewN _⟩
                    case measure => simp [intOf]; omega
          · obtain rfl : k = W.length := by omega
            have hri : rises writeOk W = true := by unfold rises; rw [hok.out, decide_eq_true (by omega)]; rfl
            have HRIW := Lib.hid hri
            clear hri hlt hok
            have HOK := Lib.hid (show decide (TOk c n R W) = true from decide_eq_true ⟨by omega, by omega, by omega, by omega, by have := T6.out; omega, HRIR.out, HRIW.out⟩)
            go_wp2_with fail
            go_ret
            exact ⟨by rw [HOK.out]; rfl, hf0⟩
  · go_enter Tryz.func8, Tryz.ntmps8
    go_wp2_with fail
    rw [hgB.out] at hB0 ⊢
    generalize w.alloc (Obj.cells #[.int .i64 c, .int .i64 n, .slice A R.length cr, .slice B W.length cw] 25) = w0 at *
    go_loopw [3] (fun ix wr => ∃ k : Nat, k ≤ R.length ∧ ix = .int .i64 k ∧ Hid (okTo readOk R k = true) ∧ Blk wr gB 25 #[.int .i64 c, .int .i64 n, .slice A R.length cr, .slice B W.length cw] ∧ Fr (fun _ => False) w wr) (fun ix _ => R.length - (intOf ix).toNat)
    case atStart => exact ⟨0, by omega, rfl, rfl, hB0, hf0⟩
    case round =>
      clear hB0 hf0
      obtain ⟨k, hk, rfl, hok, hB0, hf0⟩ := hrel
      have hcl := hB0.cell 2
      by_cases hlt : k < R.length
      · obtain ⟨x, hx⟩ : ∃ x, R[k]? = some x := ⟨R[k], List.getElem?_eq_getElem hlt⟩
        obtain ⟨b, o, rfl, hFb, e0, e1⟩ := HRr.out k x hx
        have d0 := hf0.cell_some e0 id
        have d1 := hf0.cell_some e1 id
        have HX := Lib.hid hx
        have hBn := hB0.alloc (Obj.cells #[.string x.1, .int .i64 x.2] 74)
        have hfn := hf0.alloc (Obj.cells #[.string x.1, .int .i64 x.2] 74)
        have hcn := hBn.cell 2
        have x0 := (Blk.new wr 74 #[.string x.1, .int .i64 x.2]).cell 0
        have x1 := (Blk.new wr 74 #[.string x.1, .int .i64 x.2]).cell 1
        clear hx e0 e1
        by_cases c16 : (16 : Int) < x.1.size
        · have c16' : decide ((16 : Int) < x.1.size) = true := decide_eq_true c16
          have eo : okAt readOk R k = false := by unfold okAt; rw [HX.out]; simp [c16]
          have hno := rises_no _ hlt eo
          have HNO := Lib.hid (show decide (TOk c n R W) = false from decide_eq_false (fun h => by rw [h.2.2.2.2.2.1] at hno; cases hno))
          clear eo hno
          clear c16
          go_wp2_with fail
          go_big_quiet (fail)
          go_wp2_with fail
          go_ret
          exact ⟨by rw [HNO.out]; rfl, hfn.drewN _⟩
        · have c16' : decide ((16 : Int) < x.1.size) = false := decide_eq_false c16
          by_cases v0 : x.2 < 0
          · have v0' : decide (x.2 < 0) = true := decide_eq_true v0
            have hrf : readOk x = false := by unfold readOk; rw [decide_eq_false (p := 0 ≤ x.2) (by omega)]; rfl
            have eo : okAt readOk R k = false := by unfold okAt; rw [HX.out]; simp [hrf]
            have hno := rises_no _ hlt eo
            have HNO := Lib.hid (show decide (TOk c n R W) = false from decide_eq_false (fun h => by rw [h.2.2.2.2.2.1] at hno; cases hno))
            clear eo hno
            clear c16 v0 hrf
            go_wp2_with fail
            go_big_quiet (fail)
            go_wp2_with fail
            go_ret
            exact ⟨by rw [HNO.out]; rfl, hfn.drewN _⟩
          · have v0' : decide (x.2 < 0) = false := decide_eq_false v0
            by_cases v1 : 1099511627776 < x.2
            · have v1' : decide (1099511627776 < x.2) = true := decide_eq_true v1
              have hrf : readOk x = false := by unfold readOk; rw [decide_eq_false (p := x.2 ≤ 1099511627776) (by omega), Bool.and_false]
              have eo : okAt readOk R k = false := by unfold okAt; rw [HX.out]; simp [hrf]
              have hno := rises_no _ hlt eo
              have HNO := Lib.hid (show decide (TOk c n R W) = false from decide_eq_false (fun h => by rw [h.2.2.2.2.2.1] at hno; cases hno))
              clear eo hno
              clear c16 v0 v1 hrf
              go_wp2_with fail
              go_big_quiet (fail)
              go_wp2_with fail
              go_ret
              exact ⟨by rw [HNO.out]; rfl, hfn.drewN _⟩
            · have v1' : decide (1099511627776 < x.2) = false := decide_eq_false v1
              have hro : readOk x = true := by unfold readOk; rw [decide_eq_true (p := 0 ≤ x.2) (by omega), decide_eq_true (p := x.2 ≤ 1099511627776) (by omega)]; rfl
              rcases k with _ | j
              · have HEO := Lib.hid (show okAt readOk R 0 = true by unfold okAt; rw [HX.out]; simp [hro, c16])
                clear hro c16 v0 v1
                simp only [Nat.zero_mul, Nat.add_zero] at d0 d1
                go_wp2_with fail
                go_big_quiet (fail)
                go_wp2_with fail
                go_roundw
                case rel => exact ⟨1, by omega, by go_num, okTo_succ _ hok.out HEO.out, hBn.drewN _, hfn.drewN _⟩
                case measure => simp [intOf]; omega
              · obtain ⟨y, hy⟩ : ∃ y, R[j]? = some y := ⟨R[j]'(by omega), List.getElem?_eq_getElem (by omega)⟩
                obtain ⟨b', o', e1, _, g0, _⟩ := HRr.out j y hy
                cases e1
                have y0 := hfn.cell_some g0 id
                have hroS : okAt readOk R (j + 1) = strLess y.1 x.1 := by unfold okAt; rw [HX.out]; dsimp only; rw [hy]; simp [hro, c16]
                have qk : decide ((0 : Int) < ((j + 1 : Nat) : Int)) = true := decide_eq_true (by omega)
                have qj : ((j + 1 : Nat) : Int) - 1 = (j : Int) := by omega
                have qj0 : (0 : Int) ≤ (j : Int) := by omega
                have qjw : IntKind.i64.wrap (j : Int) = (j : Int) := wrap_i64 j (by omega)
                have qj1 : (j : Int) < (R.length : Int) := by omega
                cases hsl : Op.bytesLess y.1.toList x.1.toList with
                | false =>
                  have hno := rises_no _ hlt (hroS.trans hsl)
                  have HNO := Lib.hid (show decide (TOk c n R W) = false from decide_eq_false (fun h => by rw [h.2.2.2.2.2.1] at hno; cases hno))
                  clear hro hroS hno hy g0 c16 v0 v1
                  go_wp2_with fail
                  go_big_quiet (fail)
                  go_wp2_with fail
                  go_ret
                  exact ⟨by rw [HNO.out]; rfl, hfn.drewN _⟩
                | true =>
                  have HEO := Lib.hid (hroS.trans hsl)
                  clear hro hroS hy g0 c16 v0 v1
                  go_wp2_with fail
                  go_big_quiet (fail)
                  go_wp2_with fail
                  go_roundw
                  case rel => exact ⟨j + 1 + 1, by omega, by go_num, okTo_succ _ hok.out HEO.out, hBn.drewN _, hfn.drewN _⟩
                  case measure => simp [intOf]; omega
      · obtain rfl : k = R.length := by omega
        have hri : rises readOk R = true := by unfold rises; rw [hok.out, decide_eq_true (by omega)]; rfl
        have HRIR := Lib.hid hri
        clear hri hlt hok
        go_wp2_with fail
        go_loopw [5] (fun ix wr => ∃ k : Nat, k ≤ W.length ∧ ix = .int .i64 k ∧ Hid (okTo writeOk W k = true) ∧ Blk wr gB 25 #[.int .i64 c, .int .i64 n, .slice A R.length cr, .slice B W.length cw] ∧ Fr (fun _ => False) w wr) (fun ix _ => W.length - (intOf ix).toNat)
        case atStart => exact ⟨0, by omega, rfl, rfl, hB0, hf0⟩
        case round =>
          clear hB0 hf0
          obtain ⟨k, hk, rfl, hok, hB0, hf0⟩ := hrel
          have hcl := hB0.cell 3
          by_cases hlt : k < W.length
          · obtain ⟨x, hx⟩ : ∃ x, W[k]? = some x := ⟨W[k], List.getElem?_eq_getElem hlt⟩
            obtain ⟨b, o, rfl, hFb, e0, e1⟩ := HWr.out k x hx
            have d0 := hf0.cell_some e0 id
            have d1 := hf0.cell_some e1 id
            have HX := Lib.hid hx
            have hBn := hB0.alloc (Obj.cells #[.string x.1, .string x.2] 50)
            have hfn := hf0.alloc (Obj.cells #[.string x.1, .string x.2] 50)
            have hcn := hBn.cell 3
            have x0 := (Blk.new wr 50 #[.string x.1, .string x.2]).cell 0
            have x1 := (Blk.new wr 50 #[.string x.1, .string x.2]).cell 1
            clear hx e0 e1
            by_cases c16 : (16 : Int) < x.1.size
            · have c16' : decide ((16 : Int) < x.1.size) = true := decide_eq_true c16
              have eo : okAt writeOk W k = false := by unfold okAt; rw [HX.out]; simp [c16]
              have hno := rises_no _ hlt eo
              have HNO := Lib.hid (show decide (TOk c n R W) = false from decide_eq_false (fun h => by rw [h.2.2.2.2.2.2] at hno; cases hno))
              clear eo hno
              clear c16
              go_wp2_with fail
              go_big_quiet (fail)
              go_wp2_with fail
              go_ret
              exact ⟨by rw [HNO.out]; rfl, hfn.drewN _⟩
            · have c16' : decide ((16 : Int) < x.1.size) = false := decide_eq_false c16
              by_cases v0 : (64 : Int) < x.2.size
              · have v0' : decide ((64 : Int) < x.2.size) = true := decide_eq_true v0
                have hrf : writeOk x = false := decide_eq_false (by omega)
                have eo : okAt writeOk W k = false := by unfold okAt; rw [HX.out]; simp [hrf]
                have hno := rises_no _ hlt eo
                have HNO := Lib.hid (show decide (TOk c n R W) = false from decide_eq_false (fun h => by rw [h.2.2.2.2.2.2] at hno; cases hno))
                clear eo hno
                clear c16 v0 hrf
                go_wp2_with fail
                go_big_quiet (fail)
                go_wp2_with fail
                go_ret
                exact ⟨by rw [HNO.out]; rfl, hfn.drewN _⟩
              · have v0' : decide ((64 : Int) < x.2.size) = false := decide_eq_false v0
                have hro : writeOk x = true := decide_eq_true (by omega)
                rcases k with _ | j
                · have HEO := Lib.hid (show okAt writeOk W 0 = true by unfold okAt; rw [HX.out]; simp [hro, c16])
                  clear hro c16 v0
                  simp only [Nat.zero_mul, Nat.add_zero] at d0 d1
                  go_wp2_with fail
                  go_big_quiet (fail)
                  go_wp2_with fail
                  go_roundw
                  case rel => exact ⟨1, by omega, by go_num, okTo_succ _ hok.out HEO.out, hBn.drewN _, hfn.drewN _⟩
                  case measure => simp [intOf]; omega
                · obtain ⟨y, hy⟩ : ∃ y, W[j]? = some y := ⟨W[j]'(by omega), List.getElem?_eq_getElem (by omega)⟩
                  obtain ⟨b', o', e1, _, g0, _⟩ := HWr.out j y hy
                  cases e1
                  have y0 := hfn.cell_some g0 id
                  have hroS : okAt writeOk W (j + 1) = strLess y.1 x.1 := by unfold okAt; rw [HX.out]; dsimp only; rw [hy]; simp [hro, c16]
                  have qk : decide ((0 : Int) < ((j + 1 : Nat) : Int)) = true := decide_eq_true (by omega)
                  have qj : ((j + 1 : Nat) : Int) - 1 = (j : Int) := by omega
                  have qj0 : (0 : Int) ≤ (j : Int) := by omega
                  have qjw : IntKind.i64.wrap (j : Int) = (j : Int) := wrap_i64 j (by omega)
                  have qj1 : (j : Int) < (W.length : Int) := by omega
                  cases hsl : Op.bytesLess y.1.toList x.1.toList with
                  | false =>
                    have hno := rises_no _ hlt (hroS.trans hsl)
                    have HNO := Lib.hid (show decide (TOk c n R W) = false from decide_eq_false (fun h => by rw [h.2.2.2.2.2.2] at hno; cases hno))
                    clear hro hroS hno hy g0 c16 v0
                    go_wp2_with fail
                    go_big_quiet (fail)
                    go_wp2_with fail
                    go_ret
                    exact ⟨by rw [HNO.out]; rfl, hfn.drewN _⟩
                  | true =>
                    have HEO := Lib.hid (hroS.trans hsl)
                    clear hro hroS hy g0 c16 v0
                    go_wp2_with fail
                    go_big_quiet (fail)
                    go_wp2_with fail
                    go_roundw
                    case rel => exact ⟨j + 1 + 1, by omega, by go_num, okTo_succ _ hok.out HEO.out, hBn.drewN _, hfn.drewN _⟩
                    case measure => simp [intOf]; omega
          · obtain rfl : k = W.length := by omega
            have hri : rises writeOk W = true := by unfold rises; rw [hok.out, decide_eq_true (by omega)]; rfl
            have HRIW := Lib.hid hri
            clear hri hlt hok
            have HOK := Lib.hid (show decide (TOk c n R W) = true from decide_eq_true ⟨by omega, by omega, by omega, by omega, by have := T6.out; omega, HRIR.out, HRIW.out⟩)
            go_wp2_with fail
            go_ret
            exact ⟨by rw [HOK.out]; rfl, hf0⟩
theorem ref10_Right_ok {w : World} {F : Nat → Prop} {A B : Option Addr} {cr cw : Nat} {c n : Int} {R : List (ByteArray × Int)} {W : List (ByteArray × ByteArray)} (hr : ReadRow w F A R) (hw : WriteRow w F B W) (h : TOk c n R W) :
    Calls Tryz.prog 8 #[.agg #[.int .i64 c, .int .i64 n, .slice A R.length cr, .slice B W.length cw]] w (OkB w true) := by
  have := ref10_Right (cr := cr) (cw := cw) (c := c) (n := n) hr hw
  rw [decide_eq_true h] at this
  exact this
end Go.Proofs.YtcfanacfjcgnbaaGreatDoor
