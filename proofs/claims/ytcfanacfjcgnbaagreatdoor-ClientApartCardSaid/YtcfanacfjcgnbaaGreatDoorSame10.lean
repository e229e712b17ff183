/- cohortref10: Same. -/
import Derived.Test.YtcfanacfjcgnbaaGreatDoorTxnC
import Derived.Laws.StructEq
namespace Go.Proofs.YtcfanacfjcgnbaaGreatDoor
open Go Go.RowKit
theorem bytes_inj {a b : ByteArray} (h : a.toList = b.toList) : a = b := by
  rw [ByteArray.toList_eq, ByteArray.toList_eq] at h
  exact ByteArray.ext (Array.ext' h)
theorem take_both {α : Type} {l m : List α} {k : Nat} {x y : α} (h : l.take k = m.take k) (hx : l[k]? = some x) (hy : m[k]? = some y) (hxy : x = y) : l.take (k + 1) = m.take (k + 1) := by
  obtain ⟨h1, rfl⟩ := List.getElem?_eq_some_iff.1 hx
  obtain ⟨h2, rfl⟩ := List.getElem?_eq_some_iff.1 hy
  rw [List.take_succ_eq_append_getElem h1, List.take_succ_eq_append_getElem h2, h, hxy]
theorem same10_no {w w' : World} {P : Prop} [Decidable P] {z : Bool} (hz : Hid (decide P = z)) (h : ¬ P) (hf : Fr (fun _ => False) w w') : OkB w z (.returned (.bool false)) w' := ⟨by rw [← hz.out, decide_eq_false h], hf⟩
theorem same10_yes {w w' : World} {P : Prop} [Decidable P] {z : Bool} (hz : Hid (decide P = z)) (h : P) (hf : Fr (fun _ => False) w w') : OkB w z (.returned (.bool true)) w' := ⟨by rw [← hz.out, decide_eq_true h], hf⟩
set_option maxRecDepth 100000 in
set_option maxHeartbeats 1000000 in
theorem ref10_Same {w : World} {F : Nat → Prop} {A B A' B' : Option Addr} {cr cw cr' cw' : Nat} {c n c' n' : Int} {R R' : List (ByteArray × Int)} {W W' : List (ByteArray × ByteArray)} (hr : ReadRow w F A R) (hw : WriteRow w F B W) (hr' : ReadRow w F A' R') (hw' : WriteRow w F B' W') (lR : R.length ≤ 1000) (lW : W.length ≤ 1000) :
    Calls Tryz.prog 13 #[.agg #[.int .i64 c, .int .i64 n, .slice A R.length cr, .slice B W.length cw], .agg #[.int .i64 c', .int .i64 n', .slice A' R'.length cr', .slice B' W'.length cw']] w (OkB w (decide (c = c' ∧ n = n' ∧ R = R' ∧ W = W'))) := by
  obtain ⟨m1, hm1⟩ : ∃ x, Hid (R'.length = x) := ⟨_, rfl⟩
  obtain ⟨m2, hm2⟩ : ∃ x, Hid (W'.length = x) := ⟨_, rfl⟩
  rw [hm1.out, hm2.out]
  have hf0 : Fr (fun _ => False) w ((w.alloc (Obj.cells #[.int .i64 c, .int .i64 n, .slice A R.length cr, .slice B W.length cw] 25)).alloc (Obj.cells #[.int .i64 c', .int .i64 n', .slice A' m1 cr', .slice B' m2 cw'] 25)) := ((Fr.refl _ _).alloc _).alloc _
  have hB0 : Blk ((w.alloc (Obj.cells #[.int .i64 c, .int .i64 n, .slice A R.length cr, .slice B W.length cw] 25)).alloc (Obj.cells #[.int .i64 c', .int .i64 n', .slice A' m1 cr', .slice B' m2 cw'] 25)) w.heap.size 25 #[.int .i64 c, .int .i64 n, .slice A R.length cr, .slice B W.length cw] := (Blk.new w _ _).alloc _
  have hB1 : Blk ((w.alloc (Obj.cells #[.int .i64 c, .int .i64 n, .slice A R.length cr, .slice B W.length cw] 25)).alloc (Obj.cells #[.int .i64 c', .int .i64 n', .slice A' m1 cr', .slice B' m2 cw'] 25)) (w.heap.size + 1) 25 #[.int .i64 c', .int .i64 n', .slice A' m1 cr', .slice B' m2 cw'] := Blk.new_ _ _ _ (by simp)
  obtain ⟨z, HZ⟩ : ∃ z, Hid (decide (c = c' ∧ n = n' ∧ R = R' ∧ W = W') = z) := ⟨_, rfl⟩
  rw [HZ.out]
  have HR := Lib.hid (hr.fr hf0 (fun _ _ => id))
  have HW := Lib.hid (hw.fr hf0 (fun _ _ => id))
  have HR' := Lib.hid (hr'.fr hf0 (fun _ _ => id))
  have HW' := Lib.hid (hw'.fr hf0 (fun _ _ => id))
  clear hr hw hr' hw'
  have lR' : Hid (R.length ≤ 1000) := lR
  have lW' : Hid (W.length ≤ 1000) := lW
  by_cases pc1 : c = c'
  case neg =>
    have q : (c == c') = false := by simp [pc1]
    have HNO : Hid (¬ (c = c' ∧ n = n' ∧ R = R' ∧ W = W')) := fun e => pc1 e.1
    go_enter Tryz.func13, Tryz.ntmps13
    go_wp2_with fail
    go_ret
    exact same10_no HZ HNO.out hf0
  case pos =>
  subst pc1
  by_cases pc2 : n = n'
  case neg =>
    have q : (n == n') = false := by simp [pc2]
    have HNO : Hid (¬ (c = c ∧ n = n' ∧ R = R' ∧ W = W')) := fun e => pc2 e.2.1
    go_enter Tryz.func13, Tryz.ntmps13
    go_wp2_with fail
    go_ret
    exact same10_no HZ HNO.out hf0
  case pos =>
  subst pc2
  by_cases pc3 : R.length = m1
  case neg =>
    have q : ((R.length : Int) == (m1 : Int)) = false := by simp; omega
    have qn : ¬ (R.length : Int) = (m1 : Int) := by omega
    have HNO : Hid (¬ (c = c ∧ n = n ∧ R = R' ∧ W = W')) := fun e => pc3 (by rw [← hm1.out, e.2.2.1])
    go_enter Tryz.func13, Tryz.ntmps13
    go_wp2_with fail
    go_ret
    exact same10_no HZ HNO.out hf0
  case pos =>
  subst pc3
  have pR : Hid (R.length = R'.length) := hm1.out.symm
  by_cases pc4 : W.length = m2
  case neg =>
    have q : ((W.length : Int) == (m2 : Int)) = false := by simp; omega
    have qn : ¬ (W.length : Int) = (m2 : Int) := by omega
    have HNO : Hid (¬ (c = c ∧ n = n ∧ R = R' ∧ W = W')) := fun e => pc4 (by rw [← hm2.out, e.2.2.2])
    go_enter Tryz.func13, Tryz.ntmps13
    go_wp2_with fail
    go_ret
    exact same10_no HZ HNO.out hf0
  case pos =>
  subst pc4
  have pW : Hid (W.length = W'.length) := hm2.out.symm
  go_enter Tryz.func13, Tryz.ntmps13
  go_wp2_with fail
  generalize ((w.alloc (Obj.cells #[.int .i64 c, .int .i64 n, .slice A R.length cr, .slice B W.length cw] 25)).alloc (Obj.cells #[.int .i64 c, .int .i64 n, .slice A' R.length cr', .slice B' W.length cw'] 25)) = w0 at *
  generalize w.heap.size = g0 at *
  go_loopw [5] (fun i wr => ∃ k : Nat, k ≤ R.length ∧ i = .int .i64 k ∧ R.take k = R'.take k ∧ Fr (fun _ => False) w0 wr) (fun i _ => R.length - (intOf i).toNat)
  case atStart => exact ⟨0, by omega, rfl, by simp, Fr.refl _ w0⟩
  case round =>
    obtain ⟨k, hk, rfl, heq, hf⟩ := hrel
    have hC0 := hB0.fr hf id
    have hC1 := hB1.fr hf id
    have c2 := hC0.cell 2
    have e2 := hC1.cell 2
    by_cases hlt : k < R.length
    · have hlt1 : (k : Int) < (R.length : Int) := by omega
      have hlt2 : k < R'.length := by have := pR.out; omega
      obtain ⟨x, hx⟩ : ∃ x, R[k]? = some x := ⟨R[k], List.getElem?_eq_getElem hlt⟩
      obtain ⟨y, hy⟩ : ∃ y, R'[k]? = some y := ⟨R'[k]'hlt2, List.getElem?_eq_getElem hlt2⟩
      obtain ⟨b, o, rfl, _, a0, a1⟩ := HR.out k x hx
      obtain ⟨b', o', rfl, _, a0', a1'⟩ := HR'.out k y hy
      have d0 := hf.cell_some a0 id
      have d1 := hf.cell_some a1 id
      have d0' := hf.cell_some a0' id
      have d1' := hf.cell_some a1' id
      have HX := Lib.hid hx
      have HY := Lib.hid hy
      have HE := Lib.hid heq
      clear a0 a1 a0' a1' hx hy heq hC0 hC1
      by_cases hs : x.1 = y.1
      · have b1 : (x.1.toList == y.1.toList) = true := by rw [hs]; simp
        by_cases hn : x.2 = y.2
        · have b2 : (x.2 == y.2) = true := by simp [hn]
          have hxy : Hid (x = y) := by
            show x = y
            cases x; cases y; simp_all
          clear hs hn
          go_wp2_with fail
          go_quiet (fail)
          go_wp2
          go_roundw
          case rel => exact ⟨k + 1, by omega, by go_num, take_both HE.out HX.out HY.out hxy.out, hf.drewN _⟩
          case measure => simp [intOf]; omega
        · have b2 : (x.2 == y.2) = false := by simp [hn]
          have hxy : Hid (R ≠ R') := fun h => hn (by have := HX.out; rw [h, HY.out] at this; cases this; rfl)
          clear hs hn
          go_wp2_with fail
          go_quiet (fail)
          go_wp2
          go_ret
          exact same10_no HZ (fun e => hxy.out e.2.2.1) (hf0.then_ (hf.drewN _))
      · have b1 : (x.1.toList == y.1.toList) = false := by simpa using fun h => hs (bytes_inj h)
        have hxy : Hid (R ≠ R') := fun h => hs (by have := HX.out; rw [h, HY.out] at this; cases this; rfl)
        clear hs
        go_wp2_with fail
        go_quiet (fail)
        go_wp2
        go_ret
        exact same10_no HZ (fun e => hxy.out e.2.2.1) (hf0.then_ (hf.drewN _))
    · have hkl : k = R.length := by omega
      have hRR : Hid (R = R') := by
        rw [hkl, List.take_of_length_le (Nat.le_refl _), pR.out, List.take_of_length_le (Nat.le_refl _)] at heq
        exact heq
      have hlt1 : ¬ (k : Int) < (R.length : Int) := by omega
      clear heq hkl hk
      go_wp2_with fail
      go_loopw [6] (fun i wr => ∃ k : Nat, k ≤ W.length ∧ i = .int .i64 k ∧ W.take k = W'.take k ∧ Fr (fun _ => False) w0 wr) (fun i _ => W.length - (intOf i).toNat)
      case atStart => exact ⟨0, by omega, rfl, by simp, hf⟩
      case round =>
        obtain ⟨k, hk, rfl, heq, hf⟩ := hrel
        have hC0 := hB0.fr hf id
        have hC1 := hB1.fr hf id
        have c2 := hC0.cell 3
        have e2 := hC1.cell 3
        by_cases hlt : k < W.length
        · have hlt1 : (k : Int) < (W.length : Int) := by omega
          have hlt2 : k < W'.length := by have := pW.out; omega
          obtain ⟨x, hx⟩ : ∃ x, W[k]? = some x := ⟨W[k], List.getElem?_eq_getElem hlt⟩
          obtain ⟨y, hy⟩ : ∃ y, W'[k]? = some y := ⟨W'[k]'hlt2, List.getElem?_eq_getElem hlt2⟩
          obtain ⟨b, o, rfl, _, a0, a1⟩ := HW.out k x hx
          obtain ⟨b', o', rfl, _, a0', a1'⟩ := HW'.out k y hy
          have d0 := hf.cell_some a0 id
          have d1 := hf.cell_some a1 id
          have d0' := hf.cell_some a0' id
          have d1' := hf.cell_some a1' id
          have HX := Lib.hid hx
          have HY := Lib.hid hy
          have HE := Lib.hid heq
          clear a0 a1 a0' a1' hx hy heq hC0 hC1
          by_cases hs : x.1 = y.1
          · have b1 : (x.1.toList == y.1.toList) = true := by rw [hs]; simp
            by_cases hn : x.2 = y.2
            · have b2 : (x.2.toList == y.2.toList) = true := by rw [hn]; simp
              have hxy : Hid (x = y) := by
                show x = y
                cases x; cases y; simp_all
              clear hs hn
              go_wp2_with fail
              go_quiet (fail)
              go_wp2
              go_roundw
              case rel => exact ⟨k + 1, by omega, by go_num, take_both HE.out HX.out HY.out hxy.out, hf.drewN _⟩
              case measure => simp [intOf]; omega
            · have b2 : (x.2.toList == y.2.toList) = false := by simpa using fun h => hn (bytes_inj h)
              have hxy : Hid (W ≠ W') := fun h => hn (by have := HX.out; rw [h, HY.out] at this; cases this; rfl)
              clear hs hn
              go_wp2_with fail
              go_quiet (fail)
              go_wp2
              go_ret
              exact same10_no HZ (fun e => hxy.out e.2.2.2) (hf0.then_ (hf.drewN _))
          · have b1 : (x.1.toList == y.1.toList) = false := by simpa using fun h => hs (bytes_inj h)
            have hxy : Hid (W ≠ W') := fun h => hs (by have := HX.out; rw [h, HY.out] at this; cases this; rfl)
            clear hs
            go_wp2_with fail
            go_quiet (fail)
            go_wp2
            go_ret
            exact same10_no HZ (fun e => hxy.out e.2.2.2) (hf0.then_ (hf.drewN _))
        · have hkl : k = W.length := by omega
          have hWW : Hid (W = W') := by
            rw [hkl, List.take_of_length_le (Nat.le_refl _), pW.out, List.take_of_length_le (Nat.le_refl _)] at heq
            exact heq
          have hlt1 : ¬ (k : Int) < (W.length : Int) := by omega
          clear heq hkl hk
          go_wp2_with fail
          go_ret
          exact same10_yes HZ ⟨by trivial, by trivial, hRR.out, hWW.out⟩ (hf0.then_ hf)
end Go.Proofs.YtcfanacfjcgnbaaGreatDoor
