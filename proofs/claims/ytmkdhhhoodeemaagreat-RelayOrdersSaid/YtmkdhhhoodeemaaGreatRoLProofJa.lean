/- RelayOrdersSaid: for every input the law returns true, and each argument reads behind the call as it read before. No condition. -/
import Derived.Laws.StructEq
import Derived.BigQuiet
import Derived.Shelf.Strconv.Itoa0
import Derived.Lib.ItoaNum
import Derived.Test.YtmkdhhhoodeemaaGreatRoLProofGa
import Derived.Test.YtmkdhhhoodeemaaGreatRoLProofGb
import Derived.Test.YtmkdhhhoodeemaaGreatRoLProofGc
import Derived.Test.YtmkdhhhoodeemaaGreatRoLProofGd
import Derived.Test.YtmkdhhhoodeemaaGreatRoLProofGe
import Derived.Test.YtmkdhhhoodeemaaGreatRoLProofGf
set_option linter.unusedVariables false
set_option linter.unusedSimpArgs false
set_option maxRecDepth 100000
set_option maxHeartbeats 16000000
namespace Go.Proofs.YtmkdhhhoodeemaaGreat
open Go Go.RowKit
section
variable {G D : Int} {L : List (Int × Int)}
theorem chk1_zero {last x : Int} : chk1 G D L last x = 0 ↔ (last < x ∧ 0 ≤ memberOf G x ∧ (memberOf G x, D) ∈ L) := by
 unfold chk1
 split
 ·rename_i h
  constructor
  ·intro h1; simp at h1
  ·intro h1; omega
 ·rename_i h
  split
  ·rename_i h2
   exact ⟨fun _ => ⟨by omega, by omega, h2⟩, fun _ => rfl⟩
  ·rename_i h2
   exact ⟨fun h1 => by simp at h1, fun h1 => absurd h1.2.2 h2⟩
theorem chkErr_none : ∀ (xs : List Int) (last : Int) (i : Nat), chkErr G D L last i xs = none ↔ (List.Pairwise (· < ·) (last :: xs) ∧ ∀ x ∈ xs, 0 ≤ memberOf G x ∧ (memberOf G x, D) ∈ L)
 | [], last, i => by simp [chkErr]
 | x :: r, last, i => by
  unfold chkErr
  by_cases h : chk1 G D L last x = 0
  ·rw [if_pos h, chkErr_none r x (i + 1)]
   have h1 := chk1_zero.1 h
   constructor
   ·rintro ⟨hp, hm⟩
    refine ⟨List.pairwise_cons.2 ⟨?_, hp⟩, ?_⟩
    ·intro y hy
     rcases List.mem_cons.1 hy with rfl | hy
     ·exact h1.1
     ·have := (List.pairwise_cons.1 hp).1 y hy
      omega
    ·intro y hy
     rcases List.mem_cons.1 hy with rfl | hy
     ·exact h1.2
     ·exact hm y hy
   ·rintro ⟨hp, hm⟩
    exact ⟨(List.pairwise_cons.1 hp).2, fun y hy => hm y (List.mem_cons_of_mem _ hy)⟩
  ·rw [if_neg h]
   constructor
   ·intro h1; cases h1
   ·rintro ⟨hp, hm⟩
    exact absurd (chk1_zero.2 ⟨(List.pairwise_cons.1 hp).1 x List.mem_cons_self, hm x List.mem_cons_self⟩) h
theorem whoInts_mem {x : Int} (h : x ∈ whoInts G D L) : 0 ≤ x ∧ 0 ≤ memberOf G x ∧ (memberOf G x, D) ∈ L := by
 obtain ⟨i, hi, rfl⟩ := List.mem_map.1 h
 have := (List.mem_filter.1 hi).2
 simp only [decide_eq_true_eq] at this
 exact ⟨by omega, this⟩
theorem whoInts_rises : List.Pairwise (· < ·) (whoInts G D L) := by
 unfold whoInts whoTo
 rw [List.pairwise_map]
 exact (List.Pairwise.filter _ List.pairwise_lt_range).imp (fun h => by omega)
end
theorem bytes_inj {a b : ByteArray} (h : a.toList = b.toList) : a = b := by
 rw [ByteArray.toList_eq, ByteArray.toList_eq] at h
 exact ByteArray.ext (Array.ext' h)
theorem take_both {α : Type} {l m : List α} {k : Nat} {x y : α} (h : l.take k = m.take k) (hx : l[k]? = some x) (hy : m[k]? = some y) (hxy : x = y) : l.take (k + 1) = m.take (k + 1) := by
 obtain ⟨h1, rfl⟩ := List.getElem?_eq_some_iff.1 hx
 obtain ⟨h2, rfl⟩ := List.getElem?_eq_some_iff.1 hy
 rw [List.take_succ_eq_append_getElem h1, List.take_succ_eq_append_getElem h2, h, hxy]
theorem same10_no {w w' : World} {P : Prop} [Decidable P] {z : Bool} (hz : Hid (decide P = z)) (h : ¬ P) (hf : Fr (fun _ => False) w w') : OkB w z (.returned (.bool false)) w' := ⟨by rw [← hz.out, decide_eq_false h], hf⟩
theorem same10_yes {w w' : World} {P : Prop} [Decidable P] {z : Bool} (hz : Hid (decide P = z)) (h : P) (hf : Fr (fun _ => False) w w') : OkB w z (.returned (.bool true)) w' := ⟨by rw [← hz.out, decide_eq_true h], hf⟩
theorem ref10_Same {w : World} {F : Nat → Prop} {A B A' B' : Option Addr} {cr cw cr' cw' : Nat} {c n c' n' : Int} {R R' : List (ByteArray × Int)} {W W' : List (ByteArray × ByteArray)} (hr : ReadRow w F A R) (hw : WriteRow w F B W) (hr' : ReadRow w F A' R') (hw' : WriteRow w F B' W') (lR : R.length ≤ 1000) (lW : W.length ≤ 1000) :
  Calls Tryz.prog 22 #[.agg #[.int .i64 c, .int .i64 n, .slice A R.length cr, .slice B W.length cw], .agg #[.int .i64 c', .int .i64 n', .slice A' R'.length cr', .slice B' W'.length cw']] w (OkB w (decide (c = c' ∧ n = n' ∧ R = R' ∧ W = W'))) := by
 obtain ⟨m1, hm1⟩ : ∃ x, Hid (R'.length = x) := ⟨_, rfl⟩
 obtain ⟨m2, hm2⟩ : ∃ x, Hid (W'.length = x) := ⟨_, rfl⟩
 rw [hm1.out, hm2.out]
 have hf0 : Fr (fun _ => False) w ((w.alloc (Obj.cells #[.int .i64 c, .int .i64 n, .slice A R.length cr, .slice B W.length cw] 29)).alloc (Obj.cells #[.int .i64 c', .int .i64 n', .slice A' m1 cr', .slice B' m2 cw'] 29)) := ((Fr.refl _ _).alloc _).alloc _
 have hB0 : Blk ((w.alloc (Obj.cells #[.int .i64 c, .int .i64 n, .slice A R.length cr, .slice B W.length cw] 29)).alloc (Obj.cells #[.int .i64 c', .int .i64 n', .slice A' m1 cr', .slice B' m2 cw'] 29)) w.heap.size 29 #[.int .i64 c, .int .i64 n, .slice A R.length cr, .slice B W.length cw] := (Blk.new w _ _).alloc _
 have hB1 : Blk ((w.alloc (Obj.cells #[.int .i64 c, .int .i64 n, .slice A R.length cr, .slice B W.length cw] 29)).alloc (Obj.cells #[.int .i64 c', .int .i64 n', .slice A' m1 cr', .slice B' m2 cw'] 29)) (w.heap.size + 1) 29 #[.int .i64 c', .int .i64 n', .slice A' m1 cr', .slice B' m2 cw'] := Blk.new_ _ _ _ (by simp)
 obtain ⟨z, HZ⟩ : ∃ z, Hid (decide (c = c' ∧ n = n' ∧ R = R' ∧ W = W') = z) := ⟨_, rfl⟩
 rw [HZ.out]
 have HR := Lib.hid (hr.fr hf0 (fun _ _ => id))
 have HW := Lib.hid (hw.fr hf0 (fun _ _ => id))
 have HR' := Lib.hid (hr'.fr hf0 (fun _ _ => id))
 have HW' := Lib.hid (hw'.fr hf0 (fun _ _ => id))
 clear hr hw hr' hw'
 have lR' : Hid (R.length ≤ 1000) := lR
 have lW' : Hid (W.length ≤ 1000) := lW
 by_cases pc1 : c = c'
 case neg =>
  have q : (c == c') = false := by simp [pc1]
  have HNO : Hid (¬ (c = c' ∧ n = n' ∧ R = R' ∧ W = W')) := fun e => pc1 e.1
  go_enter Tryz.func22, Tryz.ntmps22
  go_wp2_with fail
  go_ret
  exact same10_no HZ HNO.out hf0
 case pos =>
 subst pc1
 by_cases pc2 : n = n'
 case neg =>
  have q : (n == n') = false := by simp [pc2]
  have HNO : Hid (¬ (c = c ∧ n = n' ∧ R = R' ∧ W = W')) := fun e => pc2 e.2.1
  go_enter Tryz.func22, Tryz.ntmps22
  go_wp2_with fail
  go_ret
  exact same10_no HZ HNO.out hf0
 case pos =>
 subst pc2
 by_cases pc3 : R.length = m1
 case neg =>
  have q : ((R.length : Int) == (m1 : Int)) = false := by simp; omega
  have qn : ¬ (R.length : Int) = (m1 : Int) := by omega
  have HNO : Hid (¬ (c = c ∧ n = n ∧ R = R' ∧ W = W')) := fun e => pc3 (by rw [← hm1.out, e.2.2.1])
  go_enter Tryz.func22, Tryz.ntmps22
  go_wp2_with fail
  go_ret
  exact same10_no HZ HNO.out hf0
 case pos =>
 subst pc3
 have pR : Hid (R.length = R'.length) := hm1.out.symm
 by_cases pc4 : W.length = m2
 case neg =>
  have q : ((W.length : Int) == (m2 : Int)) = false := by simp; omega
  have qn : ¬ (W.length : Int) = (m2 : Int) := by omega
  have HNO : Hid (¬ (c = c ∧ n = n ∧ R = R' ∧ W = W')) := fun e => pc4 (by rw [← hm2.out, e.2.2.2])
  go_enter Tryz.func22, Tryz.ntmps22
  go_wp2_with fail
  go_ret
  exact same10_no HZ HNO.out hf0
 case pos =>
 subst pc4
 have pW : Hid (W.length = W'.length) := hm2.out.symm
 go_enter Tryz.func22, Tryz.ntmps22
 go_wp2_with fail
 generalize ((w.alloc (Obj.cells #[.int .i64 c, .int .i64 n, .slice A R.length cr, .slice B W.length cw] 29)).alloc (Obj.cells #[.int .i64 c, .int .i64 n, .slice A' R.length cr', .slice B' W.length cw'] 29)) = w0 at *
 generalize w.heap.size = g0 at *
 go_loopw [5] (fun i wr => ∃ k : Nat, k ≤ R.length ∧ i = .int .i64 k ∧ R.take k = R'.take k ∧ Fr (fun _ => False) w0 wr) (fun i _ => R.length - (intOf i).toNat)
 case atStart => exact ⟨0, by omega, rfl, by simp, Fr.refl _ w0⟩
 case round =>
  obtain ⟨k, hk, rfl, heq, hf⟩ := hrel
  have hC0 := hB0.fr hf id
  have hC1 := hB1.fr hf id
  have c2 := hC0.cell 2
  have e2 := hC1.cell 2
  by_cases hlt : k < R.length
  ·have hlt1 : (k : Int) < (R.length : Int) := by omega
   have hlt2 : k < R'.length := by have := pR.out; omega
   obtain ⟨x, hx⟩ : ∃ x, R[k]? = some x := ⟨R[k], List.getElem?_eq_getElem hlt⟩
   obtain ⟨y, hy⟩ : ∃ y, R'[k]? = some y := ⟨R'[k]'hlt2, List.getElem?_eq_getElem hlt2⟩
   obtain ⟨b, o, rfl, _, a0, a1⟩ := HR.out k x hx
   obtain ⟨b', o', rfl, _, a0', a1'⟩ := HR'.out k y hy
   have d0 := hf.cell_some a0 id
   have d1 := hf.cell_some a1 id
   have d0' := hf.cell_some a0' id
   have d1' := hf.cell_some a1' id
   have HX := Lib.hid hx
   have HY := Lib.hid hy
   have HE := Lib.hid heq
   clear a0 a1 a0' a1' hx hy heq hC0 hC1
   by_cases hs : x.1 = y.1
   ·have b1 : (x.1.toList == y.1.toList) = true := by rw [hs]; simp
    by_cases hn : x.2 = y.2
    ·have b2 : (x.2 == y.2) = true := by simp [hn]
     have hxy : Hid (x = y) := by
      show x = y
      cases x; cases y; simp_all
     clear hs hn
     go_wp2_with fail
     go_quiet (fail)
     go_wp2
     go_roundw
     case rel => exact ⟨k + 1, by omega, by go_num, take_both HE.out HX.out HY.out hxy.out, hf.drewN _⟩
     case measure => simp [intOf]; omega
    ·have b2 : (x.2 == y.2) = false := by simp [hn]
     have hxy : Hid (R ≠ R') := fun h => hn (by have := HX.out; rw [h, HY.out] at this; cases this; rfl)
     clear hs hn
     go_wp2_with fail
     go_quiet (fail)
     go_wp2
     go_ret
     exact same10_no HZ (fun e => hxy.out e.2.2.1) (hf0.then_ (hf.drewN _))
   ·have b1 : (x.1.toList == y.1.toList) = false := by simpa using fun h => hs (bytes_inj h)
    have hxy : Hid (R ≠ R') := fun h => hs (by have := HX.out; rw [h, HY.out] at this; cases this; rfl)
    clear hs
    go_wp2_with fail
    go_quiet (fail)
    go_wp2
    go_ret
    exact same10_no HZ (fun e => hxy.out e.2.2.1) (hf0.then_ (hf.drewN _))
  ·have hkl : k = R.length := by omega
   have hRR : Hid (R = R') := by
    rw [hkl, List.take_of_length_le (Nat.le_refl _), pR.out, List.take_of_length_le (Nat.le_refl _)] at heq
    exact heq
   have hlt1 : ¬ (k : Int) < (R.length : Int) := by omega
   clear heq hkl hk
   go_wp2_with fail
   go_loopw [6] (fun i wr => ∃ k : Nat, k ≤ W.length ∧ i = .int .i64 k ∧ W.take k = W'.take k ∧ Fr (fun _ => False) w0 wr) (fun i _ => W.length - (intOf i).toNat)
   case atStart => exact ⟨0, by omega, rfl, by simp, hf⟩
   case round =>
    obtain ⟨k, hk, rfl, heq, hf⟩ := hrel
    have hC0 := hB0.fr hf id
    have hC1 := hB1.fr hf id
    have c2 := hC0.cell 3
    have e2 := hC1.cell 3
    by_cases hlt : k < W.length
    ·have hlt1 : (k : Int) < (W.length : Int) := by omega
     have hlt2 : k < W'.length := by have := pW.out; omega
     obtain ⟨x, hx⟩ : ∃ x, W[k]? = some x := ⟨W[k], List.getElem?_eq_getElem hlt⟩
     obtain ⟨y, hy⟩ : ∃ y, W'[k]? = some y := ⟨W'[k]'hlt2, List.getElem?_eq_getElem hlt2⟩
     obtain ⟨b, o, rfl, _, a0, a1⟩ := HW.out k x hx
     obtain ⟨b', o', rfl, _, a0', a1'⟩ := HW'.out k y hy
     have d0 := hf.cell_some a0 id
     have d1 := hf.cell_some a1 id
     have d0' := hf.cell_some a0' id
     have d1' := hf.cell_some a1' id
     have HX := Lib.hid hx
     have HY := Lib.hid hy
     have HE := Lib.hid heq
     clear a0 a1 a0' a1' hx hy heq hC0 hC1
     by_cases hs : x.1 = y.1
     ·have b1 : (x.1.toList == y.1.toList) = true := by rw [hs]; simp
      by_cases hn : x.2 = y.2
      ·have b2 : (x.2.toList == y.2.toList) = true := by rw [hn]; simp
       have hxy : Hid (x = y) := by
        show x = y
        cases x; cases y; simp_all
       clear hs hn
       go_wp2_with fail
       go_quiet (fail)
       go_wp2
       go_roundw
       case rel => exact ⟨k + 1, by omega, by go_num, take_both HE.out HX.out HY.out hxy.out, hf.drewN _⟩
       case measure => simp [intOf]; omega
      ·have b2 : (x.2.toList == y.2.toList) = false := by simpa using fun h => hn (bytes_inj h)
       have hxy : Hid (W ≠ W') := fun h => hn (by have := HX.out; rw [h, HY.out] at this; cases this; rfl)
       clear hs hn
       go_wp2_with fail
       go_quiet (fail)
       go_wp2
       go_ret
       exact same10_no HZ (fun e => hxy.out e.2.2.2) (hf0.then_ (hf.drewN _))
     ·have b1 : (x.1.toList == y.1.toList) = false := by simpa using fun h => hs (bytes_inj h)
      have hxy : Hid (W ≠ W') := fun h => hs (by have := HX.out; rw [h, HY.out] at this; cases this; rfl)
      clear hs
      go_wp2_with fail
      go_quiet (fail)
      go_wp2
      go_ret
      exact same10_no HZ (fun e => hxy.out e.2.2.2) (hf0.then_ (hf.drewN _))
    ·have hkl : k = W.length := by omega
     have hWW : Hid (W = W') := by
      rw [hkl, List.take_of_length_le (Nat.le_refl _), pW.out, List.take_of_length_le (Nat.le_refl _)] at heq
      exact heq
     have hlt1 : ¬ (k : Int) < (W.length : Int) := by omega
     clear heq hkl hk
     go_wp2_with fail
     go_ret
     exact same10_yes HZ ⟨by trivial, by trivial, hRR.out, hWW.out⟩ (hf0.then_ hf)
end Go.Proofs.YtmkdhhhoodeemaaGreat
namespace Go.Proofs.YtmkdhhhoodeemaaGreat
open Go Go.RowKit
attribute [local go_sem ↓] run_neqSay run_eqlSay
end Go.Proofs.YtmkdhhhoodeemaaGreat
namespace Go.Proofs.YtmkdhhhoodeemaaGreat
open Go Go.RowKit
theorem own8_apart {w w' : World} {base b : Nat} {v v' : Value} {xs ys : List Int} (h : Own8 w base v xs) (hb : w.heap.size ≤ b) (h' : Own8 w' b v' ys) : ∀ k, v'.ownBlock = some k → v.ownBlock ≠ some k := fun k hk e => by
 have h1 := h.lt k e
 have h2 := own_ge h' k hk
 omega
theorem ref10_Put_zero (w : World) : Calls Tryz.prog 33 #[.agg #[.int .i64 0, .int .i64 0, .slice none 0 0, .slice none 0 0]] w (fun e w' => ∃ x : Int, PutP w [] (.int .i64 x) e w') := by
 have HR := Lib.hid (fun w' => ref10_Right (w := w') (F := fun _ => False) (A := none) (B := none) (cr := 0) (cw := 0) (c := 0) (n := 0) (R := []) (W := []) (fun k x h => by simp at h) (fun k x h => by simp at h))
 rw [decide_eq_false (p := TOk 0 0 [] []) (by decide)] at HR
 have HR : Hid (∀ w, Calls Tryz.prog 30 #[.agg #[.int .i64 0, .int .i64 0, .slice none 0 0, .slice none 0 0]] w (OkB w false)) := HR
 have hf0 : Fr (fun _ => False) w (w.alloc (Obj.cells #[.int .i64 0, .int .i64 0, .slice none 0 0, .slice none 0 0] 29)) := (Fr.refl _ _).alloc _
 go_enter Tryz.func33, Tryz.ntmps33
 go_wp2_with (go_at_call 30; refine (HR.out _).mono ?_; rintro e w1 ⟨rfl, hf1⟩)
 refine bodyPost_ret (v := .tuple #[.slice none 0 0, .int .i64 101]) (by simp [results, Tryz.results33, go_sem]) rfl ?_
 exact ⟨_, _, rfl, Own8.nil _ _, hf0.then_ hf1⟩
theorem own_task (w : World) {base : Nat} (hb : base ≤ w.heap.size) (a b : Value) : (w.alloc (.cells #[a, b] 68)).ownsRow base 68 2 (.slice (some ⟨w.heap.size, 0, none⟩) 1 1) 1 [a, b] := by
 refine ⟨by simp, .inr ⟨w.heap.size, 1, #[a, b], rfl, hb, heap_alloc_new w _, Nat.le_refl _, by simp only [maxLen]; omega, by simp, ?_⟩⟩
 simp
theorem intF_own {w : World} {base n c : Nat} {e : TypeId} {A : Option Addr} {xs : List Int} (h : w.ownsRow base e 1 (.slice A n c) n (ints xs)) : IntF w (fun k => base ≤ k ∧ k < w.heap.size) A xs := by
 obtain ⟨A', c', e1, _, hat⟩ := own_form h
 cases e1
 intro k x hx
 obtain ⟨b, rfl, hb, hc⟩ := hat k (.int .i64 x) (by rw [ints, List.getElem?_map, hx]; rfl)
 exact ⟨b, 0, rfl, ⟨hb, block_lt_of_cell hc⟩, by rw [Nat.zero_add]; exact hc⟩
theorem ref04_Who {w : World} {g base : Nat} {v : Value} {L : List (Int × Int)} (h : RefAt w g base v L) (hL : L.length ≤ 1099511627776) (gr d : Int) :
  Calls Tryz.prog 85 #[.pointer (some ⟨g, 0, none⟩), .int .i64 gr, .int .i64 d] w fun e w' => ∃ v, e = .returned v ∧ w'.ownsRow w.heap.size 3 1 v (whoTo gr d L 10).length (intVals (whoTo gr d L 10)) ∧ Fr (fun _ => False) w w' := by
 obtain ⟨i0, hi, hz0, hz1, hz2⟩ := info_parts int_info
 go_enter Tryz.func85, Tryz.ntmps85
 go_wp2_with fail
 go_loopw [7, 8] (fun v i wr => ∃ k : Nat, k ≤ 10 ∧ i = .int .i64 k ∧ wr.ownsRow w.heap.size 3 1 v (whoTo gr d L k).length (intVals (whoTo gr d L k)) ∧ Fr (fun _ => False) w wr) (fun _ i _ => 10 - (intOf i).toNat)
 case atStart => exact ⟨0, by omega, rfl, ⟨rfl, .inl ⟨rfl, rfl⟩⟩, Fr.refl _ _⟩
 case round =>
  obtain ⟨k, hk, rfl, hown, hf⟩ := hrel
  have hr := h.fr hf id (fun _ _ => id)
  by_cases hlt : k < 10
  ·by_cases h0 : 0 ≤ memberOf gr k
   ·by_cases hm : (memberOf gr k, d) ∈ L
    ·go_wp2_with (first
      | (go_at_call 37; refine (ref04_Member gr k _).mono ?_; rintro e w' ⟨rfl, rfl⟩)
      | (go_at_call 63; refine (ref04_Signed hr hL _ d).mono ?_; rintro e w1 ⟨rfl, rfl⟩)
      | (at_builtin; refine wpList_append1 _ rfl _ _ _ rfl w.heap.size 3 (.int .i64 0) 8 Tryz.underlying30 int_info rfl u7 _ _ rfl (hown.alloc _) wr.heap.size (.int .i64 k) rfl ?_ rfl ?_ (by omega) ?_ ?_; (· simp); (· have := whoTo_le gr d L k; omega); (· have := hf.size; simp; omega); intro g2 c2 w2 hown2 hf2))
     go_roundw
     case rel =>
      have hfw : Fr (fun _ => False) w (wr.alloc (Obj.cells #[Value.int IntKind.i64 k] 3)) := hf.alloc _
      exact ⟨k + 1, by omega, by go_num, by rw [whoTo_succ_yes h0 hm]; simpa [intVals] using hown2, hfw.own hown hf2 (Nat.le_refl _)⟩
     case measure => simp [intOf]; omega
    ·go_wp2_with (first
      | (go_at_call 37; refine (ref04_Member gr k _).mono ?_; rintro e w' ⟨rfl, rfl⟩)
      | (go_at_call 63; refine (ref04_Signed hr hL _ d).mono ?_; rintro e w1 ⟨rfl, rfl⟩))
     go_roundw
     case rel => exact ⟨k + 1, by omega, by go_num, by rw [whoTo_succ_no (fun h => hm h.2)]; exact hown, hf⟩
     case measure => simp [intOf]; omega
   ·go_wp2_with (first
     | (go_at_call 37; refine (ref04_Member gr k _).mono ?_; rintro e w' ⟨rfl, rfl⟩))
    go_roundw
    case rel => exact ⟨k + 1, by omega, by go_num, by rw [whoTo_succ_no (fun h => by have := h.1; omega)]; exact hown, hf⟩
    case measure => simp [intOf]; omega
  ·obtain rfl : k = 10 := by omega
   go_wp2
   go_ret
   exact ⟨_, rfl, hown, hf⟩
def RefMade (w : World) (G D : Int) (L : List (Int × Int)) (need : Int) (e : Ending) (w' : World) : Prop :=
  Fr (fun _ => False) w w' ∧
  (((need < 1 ∨ ((whoInts G D L).length : Int) < need) ∧ e = .returned (.tuple #[.agg #[.int .i64 0, .int .i64 0, .slice none 0 0], .int .i64 51, .agg #[.string (⟨#[109, 97, 107, 101]⟩ : ByteArray), .int .i64 ((whoInts G D L).length : Int)]])) ∨
   (¬ (need < 1 ∨ ((whoInts G D L).length : Int) < need) ∧ ∃ A cap, e = .returned (.tuple #[.agg #[.int .i64 G, .int .i64 D, .slice A ((whoInts G D L).take need.toNat).length cap], .int .i64 0, .agg #[.string ⟨#[]⟩, .int .i64 0]]) ∧ IntF w' (fun k => w.heap.size ≤ k ∧ k < w'.heap.size) A ((whoInts G D L).take need.toNat)))
theorem ref05_Make {w : World} {g base : Nat} {v : Value} {L : List (Int × Int)} (hs : RefAt w g base v L) (hL : L.length ≤ 1099511627776) (G D need : Int) :
    Calls Tryz.prog 47 #[.pointer (some ⟨g, 0, none⟩), .int .i64 G, .int .i64 D, .int .i64 need] w (RefMade w G D L need) := by
  have hf0 : Fr (fun _ => False) w ((w.alloc (Obj.cells #[.int .i64 0, .int .i64 0, .slice none 0 0] 41)).alloc (Obj.cells #[.string ⟨#[]⟩, .int .i64 0] 70)) := ((Fr.refl _ _).alloc _).alloc _
  go_enter Tryz.func47, Tryz.ntmps47
  go_wp2_with fail
  refine (ref04_Who (hs.fr hf0 id (fun _ _ => id)) hL G D).mono ?_
  rintro e w1 ⟨v, rfl, hown, hf1⟩
  obtain ⟨A, cap, rfl, hcap, _⟩ := own_form hown
  have b1 : Blk w1 w.heap.size 41 #[.int .i64 0, .int .i64 0, .slice none 0 0] := ((Blk.new _ _ _).alloc _).fr hf1 id
  have s1 : Blk w1 (w.heap.size + 1) 70 #[.string ⟨#[]⟩, .int .i64 0] := (Blk.new_ _ _ _ (n := w.heap.size + 1) (by simp)).fr hf1 id
  have hf2 := hf0.then_ hf1
  have hr := IntRow.of_own hown
  have hlt := s1.lt
  have hne1 : ¬ w.heap.size = w.heap.size + 1 := by omega
  have hne2 : ¬ w.heap.size + 1 = w.heap.size := by omega
  have c0 := b1.cell 0
  have c1 := b1.cell 1
  have c2 := b1.cell 2
  have c3 := s1.cell 0
  have c4 := s1.cell 1
  have z0 := b1.frozen 0
  have z1 := b1.frozen 1
  have z2 := b1.frozen 2
  have z3 := s1.frozen 0
  have z4 := s1.frozen 1
  by_cases hn : need < 1 ∨ ((whoTo G D L 10).length : Int) < need
  · have HN := Lib.hid hn
    by_cases h1 : need < 1
    · clear hn
      go_wp2_with fail
      have b2 := (((b1.set_ 0 (.int .i64 0)).set_ 1 (.int .i64 0)).set_ 2 (.slice none 0 0))
      have s2 := (((s1.far (p := ⟨w.heap.size, 0, none⟩) hne2 (.int .i64 0)).far (p := ⟨w.heap.size, 1, none⟩) hne2 (.int .i64 0)).far (p := ⟨w.heap.size, 2, none⟩) hne2 (.slice none 0 0))
      have s3 := (s2.set_ 0 (.string (⟨#[109, 97, 107, 101]⟩ : ByteArray))).set_ 1 (.int .i64 ((whoTo G D L 10).length : Int))
      have b3 := (b2.far (p := ⟨w.heap.size + 1, 0, none⟩) hne1 (.string (⟨#[109, 97, 107, 101]⟩ : ByteArray))).far (p := ⟨w.heap.size + 1, 1, none⟩) hne1 (.int .i64 ((whoTo G D L 10).length : Int))
      have d0 := b3.cell 0
      have d1 := b3.cell 1
      have d2 := b3.cell 2
      have d3 := s3.cell 0
      have d4 := s3.cell 1
      refine bodyPost_ret (v := .tuple #[.agg #[.int .i64 0, .int .i64 0, .slice none 0 0], .int .i64 51, .agg #[.string (⟨#[109, 97, 107, 101]⟩ : ByteArray), .int .i64 ((whoTo G D L 10).length : Int)]]) (by simp [results, Tryz.results47, go_sem, d0, d1, d2, d3, d4]) rfl ?_
      refine ⟨?_, .inl ⟨by rw [whoInts_length]; exact HN.out, by rw [whoInts_length]⟩⟩
      exact Fr.setCell (p := ⟨w.heap.size + 1, 1, none⟩) (Fr.setCell (p := ⟨w.heap.size + 1, 0, none⟩) (Fr.setCell (p := ⟨w.heap.size, 2, none⟩) (Fr.setCell (p := ⟨w.heap.size, 1, none⟩) (Fr.setCell (p := ⟨w.heap.size, 0, none⟩) hf2 (fun h => absurd h (Nat.lt_irrefl _)) _) (fun h => absurd h (Nat.lt_irrefl _)) _) (fun h => absurd h (Nat.lt_irrefl _)) _) (fun h => absurd h (by simp)) _) (fun h => absurd h (by simp)) _
    · have h2 : ((whoTo G D L 10).length : Int) < need := by omega
      clear hn
      go_wp2_with fail
      have b2 := (((b1.set_ 0 (.int .i64 0)).set_ 1 (.int .i64 0)).set_ 2 (.slice none 0 0))
      have s2 := (((s1.far (p := ⟨w.heap.size, 0, none⟩) hne2 (.int .i64 0)).far (p := ⟨w.heap.size, 1, none⟩) hne2 (.int .i64 0)).far (p := ⟨w.heap.size, 2, none⟩) hne2 (.slice none 0 0))
      have s3 := (s2.set_ 0 (.string (⟨#[109, 97, 107, 101]⟩ : ByteArray))).set_ 1 (.int .i64 ((whoTo G D L 10).length : Int))
      have b3 := (b2.far (p := ⟨w.heap.size + 1, 0, none⟩) hne1 (.string (⟨#[109, 97, 107, 101]⟩ : ByteArray))).far (p := ⟨w.heap.size + 1, 1, none⟩) hne1 (.int .i64 ((whoTo G D L 10).length : Int))
      have d0 := b3.cell 0
      have d1 := b3.cell 1
      have d2 := b3.cell 2
      have d3 := s3.cell 0
      have d4 := s3.cell 1
      refine bodyPost_ret (v := .tuple #[.agg #[.int .i64 0, .int .i64 0, .slice none 0 0], .int .i64 51, .agg #[.string (⟨#[109, 97, 107, 101]⟩ : ByteArray), .int .i64 ((whoTo G D L 10).length : Int)]]) (by simp [results, Tryz.results47, go_sem, d0, d1, d2, d3, d4]) rfl ?_
      refine ⟨?_, .inl ⟨by rw [whoInts_length]; exact HN.out, by rw [whoInts_length]⟩⟩
      exact Fr.setCell (p := ⟨w.heap.size + 1, 1, none⟩) (Fr.setCell (p := ⟨w.heap.size + 1, 0, none⟩) (Fr.setCell (p := ⟨w.heap.size, 2, none⟩) (Fr.setCell (p := ⟨w.heap.size, 1, none⟩) (Fr.setCell (p := ⟨w.heap.size, 0, none⟩) hf2 (fun h => absurd h (Nat.lt_irrefl _)) _) (fun h => absurd h (Nat.lt_irrefl _)) _) (fun h => absurd h (Nat.lt_irrefl _)) _) (fun h => absurd h (by simp)) _) (fun h => absurd h (by simp)) _
  · have HN := Lib.hid hn
    have h1 : ¬ need < 1 := by omega
    have h2 : ¬ ((whoTo G D L 10).length : Int) < need := by omega
    obtain ⟨n, rfl⟩ : ∃ n : Nat, need = n := ⟨need.toNat, by omega⟩
    have h3 : n ≤ (whoTo G D L 10).length := by omega
    have h4 : n ≤ cap := by omega
    have h5 : ¬ cap = 0 := by omega
    have hlen : ((whoInts G D L).take n).length = n := by rw [List.length_take, whoInts_length]; omega
    obtain ⟨b, o, rfl, hbw, hat⟩ := (hr.take n).at (xs := (whoInts G D L).take n) (by rw [hlen]; omega)
    have own1 : (w1.alloc (Obj.cells #[] 3)).ownsRow w1.heap.size 3 1 (.slice (some ⟨w1.heap.size, 0, none⟩) 0 0) 0 (ints []) := by
      have := own_built w1 (base := w1.heap.size) (Nat.le_refl _) [] (by simp) 0 rfl
      simpa [ints] using this
    have hf3 : Fr (fun _ => False) w (w1.alloc (Obj.cells #[] 3)) := hf2.alloc _
    have hat3 := hat.fr ((Fr.refl (fun _ => False) w1).alloc (Obj.cells #[] 3)) id
    have b3 := b1.alloc (Obj.cells #[] 3)
    have s3 := s1.alloc (Obj.cells #[] 3)
    have hsz1 : w.heap.size ≤ w1.heap.size := hf2.size
    have hn1 : n ≤ 1099511627776 := by have := whoTo_le G D L 10; omega
    have hn0 : 0 < n := by omega
    clear hn
    go_wp2_with (first
      | (at_builtin
         refine wpList_append_ints rfl (.tmp 30) (.tmp 33) rfl w1.heap.size _ 0 [] rfl own1 b o n cap ((whoInts G D L).take n) rfl hlen hat3 hn0 (by omega) (by simp) ?_
         intro g5 k5 w5 own5 gr5 h5
         simp only [Nat.zero_add, List.nil_append] at own5
         have b5 := b3.grown_own own1 gr5 (by decide)
         have s5 := s3.grown_own own1 gr5 (by decide)
         have hf5 := hf3.grown_own own1 gr5 hsz1
         have e0 := b5.cell 0
         have e1 := b5.cell 1
         have e2 := b5.cell 2
         have e3 := s5.cell 0
         have e4 := s5.cell 1
         have y0 := b5.frozen 0
         have y1 := b5.frozen 1
         have y2 := b5.frozen 2
         have y3 := s5.frozen 0
         have y4 := s5.frozen 1))
    have b6 := ((b5.set_ 0 (.int .i64 G)).set_ 1 (.int .i64 D)).set_ 2 (.slice (some ⟨g5, 0, none⟩) n k5)
    have s6 := ((s5.far (p := ⟨w.heap.size, 0, none⟩) hne2 (.int .i64 G)).far (p := ⟨w.heap.size, 1, none⟩) hne2 (.int .i64 D)).far (p := ⟨w.heap.size, 2, none⟩) hne2 (.slice (some ⟨g5, 0, none⟩) n k5)
    have s7 := (s6.set_ 0 (.string ⟨#[]⟩)).set_ 1 (.int .i64 0)
    have b7 := (b6.far (p := ⟨w.heap.size + 1, 0, none⟩) hne1 (.string ⟨#[]⟩)).far (p := ⟨w.heap.size + 1, 1, none⟩) hne1 (.int .i64 0)
    have o6 := own_setCell (own_setCell (own_setCell own5 b5 (by decide) 0 (.int .i64 G)) (b5.set_ 0 (.int .i64 G)) (by decide) 1 (.int .i64 D)) ((b5.set_ 0 (.int .i64 G)).set_ 1 (.int .i64 D)) (by decide) 2 (.slice (some ⟨g5, 0, none⟩) n k5)
    have o7 := own_setCell (own_setCell o6 s6 (by decide) 0 (.string ⟨#[]⟩)) (s6.set_ 0 (.string ⟨#[]⟩)) (by decide) 1 (.int .i64 0)
    have d0 := b7.cell 0
    have d1 := b7.cell 1
    have d2 := b7.cell 2
    have d3 := s7.cell 0
    have d4 := s7.cell 1
    refine bodyPost_ret (v := .tuple #[.agg #[.int .i64 G, .int .i64 D, .slice (some ⟨g5, 0, none⟩) n k5], .int .i64 0, .agg #[.string ⟨#[]⟩, .int .i64 0]]) (by simp [results, Tryz.results47, go_sem, d0, d1, d2, d3, d4]) rfl ?_
    refine ⟨?_, .inr ⟨by rw [whoInts_length]; exact HN.out, some ⟨g5, 0, none⟩, k5, ?_, ?_⟩⟩
    · exact Fr.setCell (p := ⟨w.heap.size + 1, 1, none⟩) (Fr.setCell (p := ⟨w.heap.size + 1, 0, none⟩) (Fr.setCell (p := ⟨w.heap.size, 2, none⟩) (Fr.setCell (p := ⟨w.heap.size, 1, none⟩) (Fr.setCell (p := ⟨w.heap.size, 0, none⟩) hf5 (fun h => absurd h (Nat.lt_irrefl _)) _) (fun h => absurd h (Nat.lt_irrefl _)) _) (fun h => absurd h (Nat.lt_irrefl _)) _) (fun h => absurd h (by simp)) _) (fun h => absurd h (by simp)) _
    · rw [Int.toNat_natCast, hlen]
    · rw [Int.toNat_natCast]
      exact (intF_own o7).mono_ (fun k hk => ⟨by omega, hk.2⟩)
def RTextOut (w : World) (L : List (List Int)) (d : Int) (e : Ending) (w' : World) : Prop :=
 Fr (fun _ => False) w w' ∧ ((0 ≤ d ∧ ∃ t, L[d.toNat]? = some t ∧ ∃ v, e = .returned (.tuple #[v, .int .i64 0]) ∧ Own8 w' w.heap.size v t) ∨ ((d < 0 ∨ L[d.toNat]? = none) ∧ e = .returned (.tuple #[.slice none 0 0, .int .i64 1])))
theorem ref03_Text {w : World} {g base : Nat} {v : Value} {L : List (List Int)} (h : RBookAt w g base v L) (hL : L.length ≤ 1099511627776) (d : Int) (hs : ∀ t ∈ L, t.length ≤ 65536) :
  Calls Tryz.prog 48 #[.pointer (some ⟨g, 0, none⟩), .int .i64 d] w (RTextOut w L d) := by
 obtain ⟨vals, hown, hin⟩ := h.row
 obtain ⟨A0, cap0, rfl, _, hat⟩ := own_form hown
 have c0 : w.cell? ⟨g, 0, none⟩ = some (.slice A0 L.length cap0) := h.blk.cell 0
 by_cases hd0 : d < 0
 ·clear hin hat hown h
  go_enter Tryz.func48, Tryz.ntmps48
  go_wp2
  refine bodyPost_ret (v := .tuple #[.slice none 0 0, .int .i64 1]) (by simp [results, Tryz.results48, go_sem]) rfl ?_
  exact ⟨Fr.refl _ _, .inr ⟨.inl hd0, rfl⟩⟩
 obtain ⟨k, rfl⟩ := Int.eq_ofNat_of_zero_le (by omega : 0 ≤ d)
 by_cases hk : L.length ≤ k
 ·have hk' : (L.length : Int) ≤ (k : Int) := by omega
  have hN : Hid (L[((k : Nat) : Int).toNat]? = none) := by show _ = _; rw [Int.toNat_natCast]; exact List.getElem?_eq_none hk
  clear hin hat hown h
  go_enter Tryz.func48, Tryz.ntmps48
  go_wp2
  refine bodyPost_ret (v := .tuple #[.slice none 0 0, .int .i64 1]) (by simp [results, Tryz.results48, go_sem]) rfl ?_
  exact ⟨Fr.refl _ _, .inr ⟨.inr hN.out, rfl⟩⟩
 have hk' : ¬ (L.length : Int) ≤ (k : Int) := by omega
 have hlt : (k : Int) < (L.length : Int) := by omega
 obtain ⟨t, ht⟩ : ∃ t, L[k]? = some t := ⟨L[k], List.getElem?_eq_getElem (by omega)⟩
 obtain ⟨A, cap, h3, h4⟩ := hin k t ht
 obtain ⟨b, rfl, _, d0⟩ := hat k _ h3
 have htl : t.length ≤ 65536 := hs t (List.mem_of_getElem? ht)
 have HT := Lib.hid ht
 have hf1 : Fr (fun _ => False) w (w.alloc (Obj.cells #[] 5)) := (Fr.refl _ _).alloc _
 have ho : Own8 (w.alloc (Obj.cells #[] 5)) w.heap.size (.slice (some ⟨w.heap.size, 0, none⟩) 0 0) [] := Own8.built w (Nat.le_refl _) [] (by simp) 0 rfl
 have hr1 := h4.fr hf1 (fun _ _ => id)
 have c0' := hf1.cell_some c0 id
 have d0' := hf1.cell_some d0 id
 clear hin hat hown h ht h3 h4
 go_enter Tryz.func48, Tryz.ntmps48
 go_wp2_with (at_builtin; refine wpList_append_text rfl (.tmp 17) (.tmp 24) rfl w.heap.size _ [] rfl ho (U8 w) A t.length cap t rfl rfl hr1 (by simp; omega) (by simp) ?_; intro v2 w2 h2 hf2 hk2)
 refine bodyPost_ret (v := .tuple #[v2, .int .i64 0]) (by simp [results, Tryz.results48, go_sem]) rfl ?_
 have hf12 : Fr (fun _ => False) w w2 := hf1.trans hf2 (fun q hq e => by have := own_ge ho q e; omega)
 exact ⟨hf12, .inl ⟨by omega, t, by rw [Int.toNat_natCast]; exact HT.out, v2, rfl, by simpa using h2⟩⟩
theorem ref07_In (k a b : ByteArray) (w : World) : Calls Tryz.prog 51 #[.string k, .string a, .string b] w fun e w' => e = .returned (.bool (!dropE a b (k, ⟨#[]⟩, 0))) ∧ w = w' := by
 by_cases h1 : Op.bytesLess k.toList a.toList = true
 ·have hd : (!dropE a b (k, ⟨#[]⟩, 0)) = false := by unfold dropE; simp [h1]
  rw [hd]
  clear hd
  go_enter Tryz.func51, Tryz.ntmps51
  go_wp2
  go_ret
  exact ⟨rfl, rfl⟩
 ·have h1 : Op.bytesLess k.toList a.toList = false := by simpa using h1
  by_cases h2 : b.toList = []
  ·have hd : (!dropE a b (k, ⟨#[]⟩, 0)) = true := by unfold dropE; simp [h1, h2]
   rw [hd]
   clear hd
   go_enter Tryz.func51, Tryz.ntmps51
   go_wp2
   go_ret
   exact ⟨rfl, rfl⟩
  ·obtain ⟨z, hz⟩ : ∃ z, Op.bytesLess k.toList b.toList = z := ⟨_, rfl⟩
   have hd : (!dropE a b (k, ⟨#[]⟩, 0)) = z := by unfold dropE; simp [h1, h2, hz]
   rw [hd]
   clear hd
   have h3 : b.toList.isEmpty = false := by simpa using h2
   go_enter Tryz.func51, Tryz.ntmps51
   go_wp2
   go_ret
   exact ⟨rfl, rfl⟩
theorem ref11_DigestR {w : World} {g base : Nat} {v : Value} {L : List (List Int)} (h : RBookAt w g base v L) (hL8 : ∀ t ∈ L, B8 t) (hbase : base ≤ w.heap.size) (hL : L.length < 65536) {kind txn : Int} {yes : Bool} {ff tt : ByteArray} {epoch shard target root : Int} (hok : OkSay ⟨kind, txn, yes, ff, tt, epoch, shard, target, root⟩) :
  Calls Tryz.prog 46 #[.pointer (some ⟨g, 0, none⟩), .agg #[.int .i64 kind, .int .i64 txn, .bool yes, .string ff, .string tt, .int .i64 epoch, .int .i64 shard, .int .i64 target, .int .i64 root]] w (RDigOut w g base v L (sayB ⟨kind, txn, yes, ff, tt, epoch, shard, target, root⟩)) := by
 have hf0 : Fr (fun _ => False) w (w.alloc (Obj.cells #[.int .i64 kind, .int .i64 txn, .bool yes, .string ff, .string tt, .int .i64 epoch, .int .i64 shard, .int .i64 target, .int .i64 root] 23)) := (Fr.refl _ _).alloc _
 have hB0 := Blk.new w 23 #[.int .i64 kind, .int .i64 txn, .bool yes, .string ff, .string tt, .int .i64 epoch, .int .i64 shard, .int .i64 target, .int .i64 root]
 have HR := Lib.hid (fun w => ref11_Right1 w kind txn yes ff tt epoch shard target root)
 have HP := Lib.hid (fun w => ref11_Put1 w kind txn yes ff tt epoch shard target root)
 obtain ⟨xs, hxs⟩ : ∃ xs, Hid (sayB ⟨kind, txn, yes, ff, tt, epoch, shard, target, root⟩ = xs) := ⟨_, rfl⟩
 have HX : Hid (xs.length ≤ 65536 ∧ B8 xs) := by
  obtain ⟨q1, q2, q3⟩ := sayB_length hok
  dsimp only at q1 q2 q3
  show _ ∧ _
  rw [← hxs.out]
  exact ⟨by omega, b8_sayB _⟩
 rw [hxs.out]
 rw [decide_eq_true hok] at HR
 rw [if_pos hok, hxs.out] at HP
 clear hok hxs
 go_enter Tryz.func46, Tryz.ntmps46
 go_upto_region 1 with fail
 generalize w.alloc (Obj.cells #[.int .i64 kind, .int .i64 txn, .bool yes, .string ff, .string tt, .int .i64 epoch, .int .i64 shard, .int .i64 target, .int .i64 root] 23) = w0 at *
 go_upto_region 3 with (first
  | (refine wpList_load_row rfl 23 _ rfl _ rfl _ _ (0, 0) _ hB0 Tryz.underlying23 rfl (by kernel_rfl) ?_)
  | (go_at_call 29; refine (HR.out _).mono ?_; rintro e w1 ⟨rfl, hf1⟩))
 have hB1 := hB0.fr hf1 id
 have hf01 := hf0.then_ hf1
 go_wp2_with (first
  | (refine wpList_load_row rfl 23 _ rfl _ rfl _ _ (0, 0) _ hB1 Tryz.underlying23 rfl (by kernel_rfl) ?_)
  | (go_at_call 12; refine (HP.out _).mono ?_; rintro e w2 ⟨v2, rfl, hv2, hf2⟩; obtain ⟨A2, c2, rfl, _, hr2⟩ := hv2.form; have hf02 := hf01.then_ hf2; have HD := Lib.hid (ref03_Digest (cap := c2) (h.keep hf02) hL8 (Nat.le_trans hbase hf02.size) hr2 HX.out.2 HX.out.1 hL))
  | (go_at_call 21; refine HD.out.mono ?_; rintro e w3 ⟨v3, rfl, hb3, hf3, hk3⟩))
 refine bodyPost_ret (v := .tuple #[.int .i64 (digI L xs : Nat), .int .i64 0]) (by simp [results, Tryz.results46, go_sem]) rfl ?_
 exact ⟨v3, rfl, hb3, (hf02.mono (fun _ _ h => h.elim)).trans hf3 (fun _ _ h => h), fun k hk => (hk3 k hk).imp_right (Nat.le_trans hf02.size)⟩
theorem task_ok {w : World} {kind c n G D many first : Int} {A B CA EA VA : Option Addr} {nr cr nw cw nc cc ne ce nv cv : Nat} {s : SayD} {group : Int} {bs : List Int} (hne : 0 < bs.length) (hbl : bs.length ≤ 1000000) (hP : ∀ w', Fr (fun _ => False) w w' → Calls Tryz.prog 86 #[.agg #[.int .i64 kind, .int .i64 c, .int .i64 n, .slice A nr cr, .slice B nw cw, .int .i64 s.kind, .int .i64 s.txn, .bool s.yes, .string s.from_, .string s.to_, .int .i64 s.epoch, .int .i64 s.shard, .int .i64 s.target, .int .i64 s.root, .int .i64 G, .int .i64 D, .slice CA nc cc, .int .i64 many, .int .i64 first, .slice EA ne ce, .slice VA nv cv]] w' (Fresh w' bs)) :
  Calls Tryz.prog 50 #[.int .i64 group, .agg #[.int .i64 kind, .int .i64 c, .int .i64 n, .slice A nr cr, .slice B nw cw, .int .i64 s.kind, .int .i64 s.txn, .bool s.yes, .string s.from_, .string s.to_, .int .i64 s.epoch, .int .i64 s.shard, .int .i64 s.target, .int .i64 s.root, .int .i64 G, .int .i64 D, .slice CA nc cc, .int .i64 many, .int .i64 first, .slice EA ne ce, .slice VA nv cv]] w (TasksP w [group] bs) := by
 have HP := Lib.hid hP
 clear hP
 have hB0 := Blk.new w 62 #[.int .i64 kind, .int .i64 c, .int .i64 n, .slice A nr cr, .slice B nw cw, .int .i64 s.kind, .int .i64 s.txn, .bool s.yes, .string s.from_, .string s.to_, .int .i64 s.epoch, .int .i64 s.shard, .int .i64 s.target, .int .i64 s.root, .int .i64 G, .int .i64 D, .slice CA nc cc, .int .i64 many, .int .i64 first, .slice EA ne ce, .slice VA nv cv]
 have hf0 : Fr (fun _ => False) w (w.alloc (Obj.cells #[.int .i64 kind, .int .i64 c, .int .i64 n, .slice A nr cr, .slice B nw cw, .int .i64 s.kind, .int .i64 s.txn, .bool s.yes, .string s.from_, .string s.to_, .int .i64 s.epoch, .int .i64 s.shard, .int .i64 s.target, .int .i64 s.root, .int .i64 G, .int .i64 D, .slice CA nc cc, .int .i64 many, .int .i64 first, .slice EA ne ce, .slice VA nv cv] 62)) := (Fr.refl _ _).alloc _
 go_enter Tryz.func50, Tryz.ntmps50
 go_upto_region 1 with fail
 generalize w.alloc (Obj.cells #[.int .i64 kind, .int .i64 c, .int .i64 n, .slice A nr cr, .slice B nw cw, .int .i64 s.kind, .int .i64 s.txn, .bool s.yes, .string s.from_, .string s.to_, .int .i64 s.epoch, .int .i64 s.shard, .int .i64 s.target, .int .i64 s.root, .int .i64 G, .int .i64 D, .slice CA nc cc, .int .i64 many, .int .i64 first, .slice EA ne ce, .slice VA nv cv] 62) = w0 at *
 go_upto_region 2 with (first
  | (refine wpList_load_row rfl 62 _ rfl _ rfl _ _ (0, 0) _ hB0 Tryz.underlying62 rfl (by kernel_rfl) ?_)
  | (go_at_call 86; refine (HP.out _ hf0).mono ?_; rintro e w1 ⟨v1, rfl, hv1, hf1⟩; obtain ⟨A1, c1, rfl, _, hr1⟩ := hv1.u8row))
 have hn0 : ¬ (bs.length : Int) = 0 := by omega
 have hn1 : ((bs.length : Int) == 0) = false := beq_eq_false_iff_ne.mpr hn0
 have hf2 : Fr (fun _ => False) w1 (w1.alloc (Obj.cells #[.int .i64 group, .slice A1 bs.length c1] 68)) := (Fr.refl _ _).alloc _
 have hf01 := hf0.then_ hf1
 go_wp2
 go_ret
 refine ⟨_, rfl, ⟨_, own_task w1 hf01.size _ _, ?_⟩, hf01.then_ hf2⟩
 intro k x hx
 match k, hx with
 | 0, hx => cases hx; exact ⟨A1, c1, rfl, rfl, hr1.u8 hf2 (fun _ _ => id)⟩
def certG (G D : Int) (S : List Int) : List Int := num8 G ++ (num8 D ++ numsB S)
theorem certG_length (G D : Int) (S : List Int) : (certG G D S).length = 20 + 8 * S.length := by
 simp only [certG, numsB, List.length_append, num8_length, count4_length, flat_num8]
 omega
theorem ref05_Put {w : World} {F : Nat → Prop} {A : Option Addr} {cc : Nat} {G D : Int} {S : List Int} (hS : IntF w F A S) (lS : S.length ≤ 1024) :
  Calls Tryz.prog 93 #[.agg #[.int .i64 G, .int .i64 D, .slice A S.length cc]] w (fun e w' => ∃ v, e = .returned (.tuple #[v, .int .i64 0, .slice none 0 0]) ∧ Own8 w' w.heap.size v (certG G D S) ∧ Fr (fun _ => False) w w') := by
 have hB0 := (Blk.new w 41 #[.int .i64 G, .int .i64 D, .slice A S.length cc]).alloc (Obj.cells #[.slice none 0 0, .int .i64 0, .int .i64 0] 94)
 have hf0 : Fr (fun _ => False) w ((w.alloc (Obj.cells #[.int .i64 G, .int .i64 D, .slice A S.length cc] 41)).alloc (Obj.cells #[.slice none 0 0, .int .i64 0, .int .i64 0] 94)) := ((Fr.refl _ _).alloc _).alloc _
 have hW0 : RefW ((w.alloc (Obj.cells #[.int .i64 G, .int .i64 D, .slice A S.length cc] 41)).alloc (Obj.cells #[.slice none 0 0, .int .i64 0, .int .i64 0] 94)) (w.heap.size + 1) (w.heap.size + 1) (.slice none 0 0) [] none := ⟨Blk.new_ _ _ _ (by simp), Own8.nil _ _⟩
 have hz0 : w.heap.size + 1 ≤ ((w.alloc (Obj.cells #[.int .i64 G, .int .i64 D, .slice A S.length cc] 41)).alloc (Obj.cells #[.slice none 0 0, .int .i64 0, .int .i64 0] 94)).heap.size := by simp
 have HS := Lib.hid hS
 clear hS
 go_enter Tryz.func93, Tryz.ntmps93
 go_upto_region 2 with fail
 generalize ((w.alloc (Obj.cells #[.int .i64 G, .int .i64 D, .slice A S.length cc] 41)).alloc (Obj.cells #[.slice none 0 0, .int .i64 0, .int .i64 0] 94)) = w0 at *
 have hsg : w.heap.size ≤ w.heap.size + 1 := by omega
 obtain ⟨g, hg⟩ : ∃ g, Hid (w.heap.size + 1 = g) := ⟨_, rfl⟩
 rw [hg.out] at hW0 hz0 hsg ⊢
 have k0 := hB0.cell 0
 go_wp2_with fail
 refine (refw_Num hW0 hz0 (by simp) G).mono ?_
 rintro e w1 ⟨v1, rfl, hW1, hq1, _⟩
 have hW1 : RefW w1 g g v1 ([] ++ num8 G) none := hW1
 obtain ⟨b1, hb1⟩ : ∃ b, Hid (([] : List Int) ++ num8 G = b) := ⟨_, rfl⟩
 rw [hb1.out] at hW1
 have hl1 : b1.length = 8 := by rw [← hb1.out]; simp [num8_length]
 have hB1 := wrote_blk hB0 hW0.blk hW0.own hq1 (by decide) (by decide)
 have hf1 := wrote_fr hf0 hW0.own hsg hsg hq1
 have hz1 : g ≤ w1.heap.size := Nat.le_of_lt hW1.blk.lt
 clear hq1 hW0 hB0 hf0 hz0 k0
 have k1 := hB1.cell 1
 go_wp2_with fail
 refine (refw_Num hW1 hz1 (by omega) D).mono ?_
 rintro e w2 ⟨v2, rfl, hW2, hq2, _⟩
 have hW2 : RefW w2 g g v2 (b1 ++ num8 D) none := hW2
 obtain ⟨b2, hb2⟩ : ∃ b, Hid (b1 ++ num8 D = b) := ⟨_, rfl⟩
 rw [hb2.out] at hW2
 have hl2 : b2.length = 16 := by rw [← hb2.out, List.length_append, hl1]; simp [num8_length]
 have hB2 := wrote_blk hB1 hW1.blk hW1.own hq2 (by decide) (by decide)
 have hf2 := wrote_fr hf1 hW1.own hsg hsg hq2
 have hz2 : g ≤ w2.heap.size := Nat.le_of_lt hW2.blk.lt
 clear hq2 hW1 hB1 hf1 hz1 k1
 have hi := int64_info
 go_upto_region 6 with fail
 go_loopw [6, 7] (fun lv i wr => ∃ k : Nat, k ≤ S.length ∧ i = .int .i64 k ∧ wr.ownsRow w2.heap.size 2 1 lv k (num64V (S.take k)) ∧ Fr (fun _ => False) w2 wr) (fun _ i _ => S.length - (intOf i).toNat)
 case atStart => exact ⟨0, by omega, rfl, World.ownsRow_nil _ _ _ _, Fr.refl _ _⟩
 case round =>
  obtain ⟨k, hk, rfl, hown, hf⟩ := hrel
  have hBr := hB2.fr hf id
  have k2 := hBr.cell 2
  by_cases hlt : k < S.length
  ·have hlt' : (k : Int) < (S.length : Int) := by omega
   obtain ⟨x, hx⟩ : ∃ x, S[k]? = some x := ⟨S[k], List.getElem?_eq_getElem hlt⟩
   obtain ⟨b, o', rfl, _, hc⟩ := (HS.out.fr (hf2.then_ hf) (fun _ _ => id)) k x hx
   have HX := Lib.hid hx
   have hge := own_ge hown
   have hsz := hf.size
   clear hx
   go_wp2_with (at_builtin; refine wpList_append1 _ rfl _ _ _ rfl w2.heap.size 2 (.int .i64 0) 8 Tryz.underlying132 hi rfl u6 k (num64V (S.take k)) rfl (own_fr hown ((Fr.refl (fun _ => False) wr).alloc _) (fun _ _ => id)) wr.heap.size (.int .i64 x) rfl ?_ rfl (by omega) (by omega) ?_ ?_; (· simp); (· simp; omega); intro g3 c3 w3 hown3 hf3)
   go_roundw
   case rel =>
    refine ⟨k + 1, by omega, by go_num, ?_, (hf.then_ ((Fr.refl (fun _ => False) wr).alloc (Obj.cells #[.int .i64 x] 2))).trans hf3 (fun q hq e => by have := hge q e; omega)⟩
    rw [take_mem HX.out, num64V, List.map_append]
    exact hown3
   case measure => simp [intOf]; omega
  ·obtain rfl : k = S.length := by omega
   rw [List.take_length] at hown
   obtain ⟨LA, lc, rfl, hLr⟩ := own_ints hown
   have hWr := hW2.fr hf id (fun _ _ => id)
   have hzr : g ≤ wr.heap.size := Nat.le_trans hz2 hf.size
   have hw2g : g < w2.heap.size := hW2.blk.lt
   have h := refw_Nums (cap := lc) hWr hzr (F := fun k => w2.heap.size ≤ k) hLr (fun k hk e => by have := hW2.own.lt k e; omega) (fun h => by omega) (by omega) (.inl (by rw [hl2]; simp only [numsB, List.length_append, count4_length, flat_num8]; omega))
   rw [if_pos lS] at h
   have HN : Calls Tryz.prog 119 #[.pointer (some ⟨g, 0, none⟩), .slice LA S.length lc] wr (RWrote wr g g v2 (b2 ++ numsB S) none) := h
   have HN := Lib.hid HN
   obtain ⟨b4, hb4⟩ : ∃ b, Hid (b2 ++ numsB S = b) := ⟨_, rfl⟩
   rw [hb4.out] at HN
   have he : certG G D S = b4 := by rw [← hb4.out, ← hb2.out, ← hb1.out, certG]; simp
   have hl4 : b4.length = 20 + 8 * S.length := by rw [← he, certG_length]
   have hf2r := hf2.then_ hf
   clear h hown hLr
   go_upto_region 10 with (go_at_call 119; refine HN.out.mono ?_; rintro e w4 ⟨v4, rfl, hW4, hq4, _⟩)
   have hf4 := wrote_fr hf2r hWr.own hsg hsg hq4
   have y1 := hW4.blk.cell 1
   have e1 : badC none = 0 := rfl
   rw [e1] at y1
   have HY := Lib.hid (refw_Bytes hW4 (by omega))
   go_wp2_with (go_at_call 36; refine HY.out.mono ?_; rintro e w5 ⟨v5, rfl, hv5, hf5⟩)
   refine bodyPost_ret (v := .tuple #[v5, .int .i64 0, .slice none 0 0]) (by simp [results, Tryz.results93, go_sem]) rfl ?_
   have hv5 : Own8 w5 w4.heap.size v5 b4 := hv5
   rw [he]
   exact ⟨v5, rfl, hv5.base_ hf4.size, hf4.then_ hf5⟩
theorem ref05_Get {w : World} {F : Nat → Prop} {A : Option Addr} {cap : Nat} {G D : Int} {S : List Int} (hr : ByteRow w F A (certG G D S)) (lS : S.length ≤ 1024) (hG : 0 ≤ G ∧ G ≤ 2147483647) (hD : 0 ≤ D ∧ D ≤ 2147483647) (hS : ∀ y ∈ S, 0 ≤ y ∧ y ≤ 2147483647) :
    Calls Tryz.prog 61 #[.slice A (certG G D S).length cap] w (CertGot w G D S) := by
  obtain ⟨bs, hbs⟩ : ∃ bs, Hid (certG G D S = bs) := ⟨_, rfl⟩
  have hl : bs.length ≤ 65536 := by rw [← hbs.out, certG_length]; omega
  have h0 : 0 < bs.length := by rw [← hbs.out, certG_length]; omega
  have hbs2 : Hid (bs = num8 G ++ (num8 D ++ (numsB S ++ []))) := by show _ = _; rw [← hbs.out, certG, List.append_nil]
  have HS := Lib.hid hS
  rw [hbs.out] at hr ⊢
  clear hbs hS
  have hf0 : Fr (fun _ => False) w (w.alloc (Obj.cells #[.int .i64 0, .int .i64 0, .slice none 0 0] 41)) := (Fr.refl _ _).alloc _
  have hA0 := Blk.new w 41 #[.int .i64 0, .int .i64 0, .slice none 0 0]
  have HNew := Lib.hid (rs_New (cap := cap) (hr.fr hf0 (fun _ _ => id)) h0 (by omega))
  go_enter Tryz.func61, Tryz.ntmps61
  go_upto_region 2 with (go_at_call 53; refine HNew.out.mono ?_; rintro e w1 ⟨g, rfl, hg, hS1, hf1⟩)
  generalize w.alloc (Obj.cells #[.int .i64 0, .int .i64 0, .slice none 0 0] 41) = w0 at *
  have hA1 := hA0.fr hf1 id
  have hf01 := hf0.then_ hf1
  have hA2 := hA1.alloc (Obj.cells #[.int .i64 0, .int .i64 0, .slice none 0 0] 41)
  have hT2 := Blk.new w1 41 #[.int .i64 0, .int .i64 0, .slice none 0 0]
  have hf2 := hf01.alloc (Obj.cells #[.int .i64 0, .int .i64 0, .slice none 0 0] 41)
  have hS2 := hS1.keep ((Fr.refl (fun _ => False) w1).alloc (Obj.cells #[.int .i64 0, .int .i64 0, .slice none 0 0] 41))
  have hag : w.heap.size < w1.heap.size := hA1.lt
  go_upto_region 3 with fail
  have hwg : w.heap.size < g := Nat.lt_of_lt_of_le hA0.lt hg
  generalize w1.alloc (Obj.cells #[.int .i64 0, .int .i64 0, .slice none 0 0] 41) = w2 at *
  obtain ⟨gt, hgt⟩ : ∃ cc, Hid (w1.heap.size = cc) := ⟨_, rfl⟩
  rw [hgt.out] at hT2 hag ⊢
  clear hA0 hA1 hf0 hf1 hf01 HNew hg hS1 hr
  rw [hbs2.out] at hS2
  clear hbs2 hl h0
  have H := Lib.hid (rs_Int (most := 2147483647) hS2 (by omega) (by omega) (by omega))
  go_upto_region 4 with (go_at_call 56; refine H.out.mono ?_; rintro e w3 ⟨rfl, hS3, hf3t⟩; have hT3 := hT2.fr hf3t (hS2.ne hT2 (by decide)); have y := hT3.cell 0; have z := hT3.frozen 0)
  have hA3 := hA2.fr hf3t (hS2.ne hA2 (by decide))
  have hf3 : Fr (fun _ => False) w w3 := hf2.trans hf3t (fun k hk e => by omega)
  have hS4 := hS3.far hT3 (by decide) (by decide) 0 (.int .i64 G)
  have hT4 : Blk (w3.setCell ⟨gt, 0, none⟩ (.int .i64 G)) gt 41 #[.int .i64 G, .int .i64 0, .slice none 0 0] := hT3.set_ 0 _
  have hA4 := hA3.far (p := ⟨gt, 0, none⟩) (fun e => by dsimp only at e; omega) (.int .i64 G)
  have hf4 : Fr (fun _ => False) w (w3.setCell ⟨gt, 0, none⟩ (.int .i64 G)) := hf3.setCell (p := ⟨gt, 0, none⟩) (fun h => absurd h (by dsimp only; omega)) _
  generalize w3.setCell ⟨gt, 0, none⟩ (.int .i64 G) = w4 at *
  clear H hS2 hT2 hA2 hf2 hf3t hS3 hT3 hA3 hf3 y z
  have H := Lib.hid (rs_Int (most := 2147483647) hS4 (by omega) (by omega) (by omega))
  go_upto_region 5 with (go_at_call 56; refine H.out.mono ?_; rintro e w5 ⟨rfl, hS5, hf5t⟩; have hT5 := hT4.fr hf5t (hS4.ne hT4 (by decide)); have y := hT5.cell 1; have z := hT5.frozen 1)
  have hA5 := hA4.fr hf5t (hS4.ne hA4 (by decide))
  have hf5 : Fr (fun _ => False) w w5 := hf4.trans hf5t (fun k hk e => by omega)
  have hS6 := hS5.far hT5 (by decide) (by decide) 1 (.int .i64 D)
  have hT6 : Blk (w5.setCell ⟨gt, 1, none⟩ (.int .i64 D)) gt 41 #[.int .i64 G, .int .i64 D, .slice none 0 0] := hT5.set_ 1 _
  have hA6 := hA5.far (p := ⟨gt, 1, none⟩) (fun e => by dsimp only at e; omega) (.int .i64 D)
  have hf6 : Fr (fun _ => False) w (w5.setCell ⟨gt, 1, none⟩ (.int .i64 D)) := hf5.setCell (p := ⟨gt, 1, none⟩) (fun h => absurd h (by dsimp only; omega)) _
  generalize w5.setCell ⟨gt, 1, none⟩ (.int .i64 D) = w6 at *
  clear H hS4 hT4 hA4 hf4 hf5t hS5 hT5 hA5 hf5 y z
  have H := Lib.hid (rs_Nums hS6 lS (fun y hy => by have := HS.out y hy; omega))
  go_upto_region 6 with (go_at_call 57; refine H.out.mono ?_; rintro e w7 ⟨v7, rfl, hv7, hS7, hf7t⟩)
  have hT7 := hT6.fr hf7t (hS6.ne hT6 (by decide))
  have hA7 := hA6.fr hf7t (hS6.ne hA6 (by decide))
  have hf7 : Fr (fun _ => False) w w7 := hf6.trans hf7t (fun k hk e => by omega)
  have hgt6 := hT6.lt
  have hv7 := own_base hv7 (base' := gt + 1) (by omega)
  obtain ⟨NA, cn, rfl, _⟩ := own_ints hv7
  clear H hS6 hT6 hA6 hf6 hf7t hgt6
  have H := Lib.hid (rs_End hS7)
  go_upto_region 10 with (go_at_call 58; refine H.out.mono ?_; rintro e w8 ⟨rfl, hf8⟩)
  have hfs := (Fr.refl (fun _ => False) w8).alloc (Obj.cells #[.string ⟨#[]⟩, .int .i64 0] 70)
  have hT9 := (hT7.fr hf8 id).fr hfs id
  have hA9 := (hA7.fr hf8 id).fr hfs id
  have hv9 := own_fr (own_fr hv7 hf8 (fun _ _ => id)) hfs (fun _ _ => id)
  have hf9 := (hf7.then_ hf8).then_ hfs
  generalize w8.alloc (Obj.cells #[.string ⟨#[]⟩, .int .i64 0] 70) = w9 at *
  clear H hS7 hT7 hA7 hv7 hf7 hf8 hfs
  have hii := int_info
  go_loopw [8, 10] (fun eo i wr => ∃ (k : Nat) (lv : Value), k ≤ S.length ∧ i = .int .i64 k ∧ eo = .int .i64 0 ∧ wr.ownsRow (gt + 1) 3 1 lv k (num64V (S.take k)) ∧ wr.ownsRow (gt + 1) 2 1 (.slice NA S.length cn) S.length (num64V S) ∧ Blk wr gt 41 #[.int .i64 G, .int .i64 D, lv] ∧ Blk wr w.heap.size 41 #[.int .i64 0, .int .i64 0, .slice none 0 0] ∧ Fr (fun _ => False) w wr) (fun _ i _ => S.length - (intOf i).toNat)
  case atStart => exact ⟨0, _, by omega, rfl, rfl, World.ownsRow_nil _ _ _ _, hv9, hT9, hA9, hf9⟩
  case round =>
    clear hT9 hA9 hv9 hf9
    obtain ⟨k, lv, hk, rfl, rfl, hown, hnum, hT, hA, hf⟩ := hrel
    by_cases hlt : k < S.length
    · have hlt' : (k : Int) < (S.length : Int) := by omega
      obtain ⟨x, hx⟩ : ∃ x, S[k]? = some x := ⟨S[k], List.getElem?_eq_getElem hlt⟩
      have hx0 := HS.out x (List.mem_of_getElem? hx)
      obtain ⟨_, _, eN, hN⟩ := own_ints hnum
      cases eN
      obtain ⟨b, o, rfl, hb, hcb⟩ := hN k x hx
      have HX := Lib.hid hx
      have Hnum := Lib.hid hnum
      obtain ⟨Av, cv, hev, _, _⟩ := own_form hown
      subst hev
      clear hx hN hnum
      have q1 : ¬ x < 0 := by omega
      have q2 : ¬ 2147483647 < x := by omega
      have hfa : Fr (fun _ => False) wr (wr.alloc (Obj.cells #[.int .i64 x] 3)).drew := ((Fr.refl (fun _ => False) wr).alloc _).drew
      have hT3 := hT.fr hfa id
      have hA3 := hA.fr hfa id
      have ho3 := own_fr hown hfa (fun _ _ => id)
      have hz3 : gt < (wr.alloc (Obj.cells #[.int .i64 x] 3)).drew.heap.size := hT3.lt
      have y0 := hT.cell 2
      have y3 := hT3.cell 2
      have y2 : (wr.alloc (Obj.cells #[.int .i64 x] 3)).cell? ⟨gt, 2, none⟩ = some (.slice Av k cv) := y3
      have hone : ∀ (j : Nat) u', ([.int .i64 x] : List Value)[j]? = some u' → (wr.alloc (Obj.cells #[.int .i64 x] 3)).drew.cell? ((⟨wr.heap.size, 0, none⟩ : Addr).add j) = some u' := new_one wr 3 (.int .i64 x)
      go_upto_region 19 with fail
      go_region_law (refine step_append_gen rfl (.tmp 58) (.tmp 63) 30 3 rfl Tryz.underlying30 hii rfl (gt + 1) (.slice Av k cv) k (num64V (S.take k)) (by rfl) ho3 ⟨wr.heap.size, 0, none⟩ 1 1 [.int .i64 x] (by rfl) rfl hone (fun u hu => by rw [List.mem_singleton.1 hu]; rfl) (by omega) (by decide) (by omega) ?_; intro v4 w4 h4 hf4 hk4; obtain ⟨A4, cap4, rfl, _, _⟩ := own_form h4; have hT4 := hT3.fr hf4 (own_ne_blk ho3 hT3 (by decide)); have d0 := hT4.cell 2; have z0 := hT4.frozen 2)
      all_goals go_wp2_with fail
      all_goals go_roundw
      all_goals first
        | (refine ⟨k + 1, _, by omega, by go_num, rfl, ?_, own_setCell (own_fr (own_fr Hnum.out hfa (fun _ _ => id)) hf4 (fun q hq e => by obtain ⟨ds, hD⟩ := own_cells (own_fr Hnum.out hfa (fun _ _ => id)) hq; exact own_ne_blk ho3 hD (by decide) e)) hT4 (by decide) 2 _, hT4.set_ 2 _, (hA3.fr hf4 (own_ne_blk ho3 hA3 (by decide))).far (p := ⟨gt, 2, none⟩) (fun e => by dsimp only at e; omega) _, ((hf.then_ hfa).trans hf4 (fun q hq e => by have := own_ge ho3 q e; omega)).setCell (p := ⟨gt, 2, none⟩) (fun h => absurd h (by dsimp only; omega)) _⟩
           rw [take_mem HX.out, num64V, List.map_append]
           exact own_setCell h4 hT4 (by decide) 2 _)
        | (simp [intOf]; omega)
    · obtain rfl : k = S.length := by omega
      rw [List.take_length] at hown
      obtain ⟨CA, cc, rfl, hCr⟩ := own_ints hown
      clear hnum
      go_wp2_with (first
        | (refine wpList_load_row rfl 41 _ rfl _ rfl _ _ (0, 0) _ hT Tryz.underlying41 rfl (by kernel_rfl) ?_)
        | (refine wpList_store_row rfl 41 _ _ rfl w.heap.size #[.int .i64 G, .int .i64 D, .slice CA S.length cc] rfl rfl 41 _ hA (by kernel_rfl) rfl (by simp [Value.oneCell']) ?_))
      have hA13 := Blk.setRow_ (ds := #[.int .i64 G, .int .i64 D, .slice CA S.length cc]) hA
      have hfz := Fr.setRow_ (w := wr) (g := w.heap.size) (ds := #[.int .i64 G, .int .i64 D, .slice CA S.length cc])
      have hfe : Fr (fun _ => False) w _ := hf.trans hfz (fun k hk e => by omega)
      generalize wr.setRow w.heap.size #[.int .i64 G, .int .i64 D, .slice CA S.length cc] = wz at *
      refine bodyPost_ret (v := .tuple #[.agg #[.int .i64 G, .int .i64 D, .slice CA S.length cc], .int .i64 0, .slice none 0 0]) (results_row3 Tryz.results61 _ wz w.heap.size 41 #[.int .i64 G, .int .i64 D, .slice CA S.length cc] (0, 0) _ rfl hA13 Tryz.underlying41 rfl (by kernel_rfl) rfl rfl) rfl ?_
      exact ⟨CA, cc, rfl, (hCr.fr hfz (fun k hk e => by omega)).mono_ (fun k hk => by omega), hfe⟩
def lenRen2 : Go.Shelf.Ren := ⟨fun | 129 => 173 | n => n, fun | 3 => 3 | 9 => 9 | 4 => 4 | 5 => 5 | 46 => 187 | 53 => 258 | n => n, fun | n => n⟩
theorem lenLays2 : Go.Proofs.Lays.n129 Tryz.prog lenRen2 := {
 mixed := by kernel_rfl
 f129 := Tryz.func173.trans (congrArg some (by kernel_rfl))
 t3 := Tryz.underlying3
 a3 := Tryz.isAgg3
 z3 := Tryz.sizeOf3
 v3 := Tryz.zeroValue3
 t4 := Tryz.underlying4
 a4 := Tryz.isAgg4
 z4 := Tryz.sizeOf4
 v4 := Tryz.zeroValue4
 t5 := Tryz.underlying5
 a5 := Tryz.isAgg5
 z5 := Tryz.sizeOf5
 v5 := Tryz.zeroValue5
 t9 := Tryz.underlying9
 a9 := Tryz.isAgg9
 z9 := Tryz.sizeOf9
 v9 := Tryz.zeroValue9
 t46 := Tryz.underlying187
 a46 := Tryz.isAgg187
 z46 := Tryz.sizeOf187
 v46 := Tryz.zeroValue187
 t53 := Tryz.underlying258
 a53 := Tryz.isAgg258
 z53 := Tryz.sizeOf258
 v53 := Tryz.zeroValue258 }
theorem bits_Len64_2 (u : Nat) (hu : u < 524288) (w : World) : Calls Tryz.prog 173 #[.int .u64 u] w fun e w' => e = .returned (.int .i64 (Lib.bitLen u)) ∧ w = w' :=
 (Any.bits_Len64 lenLays2 u w (by omega) (by omega)).mono fun _ _ ⟨h1, h2⟩ => ⟨by simpa using h1, h2.symm⟩
theorem bits_Len_2 (u : Nat) (hu : u < 524288) (w : World) : Calls Tryz.prog 144 #[.int .u64 u] w fun e w' => e = .returned (.int .i64 (Lib.bitLen u)) ∧ w = w' := by
 have H := Lib.hid (fun w => bits_Len64_2 u hu w)
 go_enter Tryz.func144, Tryz.ntmps144
 go_wp2_with (go_at_call 173; refine (H.out _).mono ?_; rintro e w' ⟨rfl, rfl⟩)
 go_ret
 exact ⟨rfl, rfl⟩
theorem merkle_apart (w : World) (at_ n first end_ : Int) (h : -1000000 ≤ at_ ∧ at_ ≤ 1000000) (hn : -1000000 ≤ n ∧ n ≤ 1000000) :
  Calls Tryz.prog 116 #[.int .i64 at_, .int .i64 n, .int .i64 first, .int .i64 end_] w fun e w' => e = .returned (.bool (decide (end_ ≤ first ∨ end_ ≤ at_ ∨ at_ + n ≤ first))) ∧ w = w' := by
 have hs : IntKind.i64.wrap (at_ + n) = at_ + n := by unfold IntKind.wrap; simp [IntKind.bits, IntKind.signed]; omega
 by_cases h1 : end_ ≤ first
 ·rw [decide_eq_true (Or.inl h1)]
  go_enter Tryz.func116, Tryz.ntmps116
  go_wp2
  go_ret
  exact ⟨rfl, rfl⟩
 by_cases h2 : end_ ≤ at_
 ·rw [decide_eq_true (Or.inr (Or.inl h2))]
  go_enter Tryz.func116, Tryz.ntmps116
  go_wp2
  go_ret
  exact ⟨rfl, rfl⟩
 by_cases h3 : at_ + n ≤ first
 ·rw [decide_eq_true (Or.inr (Or.inr h3))]
  go_enter Tryz.func116, Tryz.ntmps116
  go_wp2
  go_ret
  exact ⟨rfl, rfl⟩
 ·rw [decide_eq_false (by omega)]
  go_enter Tryz.func116, Tryz.ntmps116
  go_wp2
  go_ret
  exact ⟨rfl, rfl⟩
end Go.Proofs.YtmkdhhhoodeemaaGreat
namespace Go.Proofs.YtmkdhhhoodeemaaGreat
open Go Go.RowKit Go.Lib
def DelP (w : World) (base : Nat) (v : Value) (p : Ent → Bool) (l : List Ent) (e : Ending) (w' : World) : Prop :=
 ∃ A n cap, e = .returned (.slice A n cap) ∧ n = (l.filter fun x => !p x).length ∧ n ≤ cap ∧ EntRow w' (fun k => base ≤ k) A (l.filter fun x => !p x) ∧ Fr (fun k => v.ownBlock = some k) w w'
theorem entry_zero : ∀ w, (zeroValue 119).run Tryz.prog w = .ok (.agg #[.string ⟨#[]⟩, .string ⟨#[]⟩, .int .i64 0]) w := Tryz.zeroValue119
theorem deleteEnt {w : World} {base : Nat} {v : Value} {l : List Ent} {p : Ent → Bool} {sb : Nat} (h : w.ownsRow base 119 3 v l.length (entsV l)) (hll : l.length ≤ 1000000) (hP : ∀ w' x, Fr (fun k => v.ownBlock = some k) w w' → Calls Tryz.prog 83 #[.agg #[.string x.1, .string x.2.1, .int .i64 x.2.2], .pointer (some ⟨sb, 0, none⟩)] w' (OkB w' (p x))) :
  Calls Tryz.prog 81 #[v, .func (.func 83) #[] #[.pointer (some ⟨sb, 0, none⟩)]] w (DelP w base v p l) := by
 obtain ⟨A, cap, rfl, hrow⟩ := own_ents h
 have HI := Lib.hid (indexEntT (cap := cap) (p := p) hrow hll (fun w' x hf => hP w' x (hf.mono (fun _ _ h => h.elim))))
 have HP := Lib.hid hP
 have HR := Lib.hid hrow
 have HO := Lib.hid h
 clear hP hrow h
 go_enter Tryz.func81, Tryz.ntmps81
 go_upto_region 2 with (first
  | (go_at_call 112; refine HI.out.mono ?_; rintro e w1 ⟨⟨i, rfl, hi⟩, hf1⟩))
 rcases hi with ⟨rfl, hno⟩ | ⟨k0, rfl, hk0, hlow, hhit⟩
 ·have HN := Lib.hid hno
  clear hno
  go_wp2_with fail
  go_ret
  have he : (l.filter fun x => !p x) = l := by
   rw [List.filter_eq_self]
   intro x hx
   obtain ⟨k, hk, rfl⟩ := List.mem_iff_getElem.1 hx
   rw [HN.out k _ (List.getElem?_eq_getElem hk)]
   rfl
  have hcp : l.length ≤ cap := by obtain ⟨_, _, e1, e2, _⟩ := own_form HO.out; cases e1; exact e2
  refine ⟨A, l.length, cap, rfl, by rw [he], hcp, ?_, hf1.mono (fun _ _ h => h.elim)⟩
  rw [he]
  exact HR.out.fr hf1 (fun _ _ => id)
 ·obtain ⟨d, hd⟩ : ∃ d : Array Ent, d = l.toArray := ⟨_, rfl⟩
  obtain ⟨kp, hkp⟩ : ∃ kp : Nat → Bool, kp = fun j => !p d[j]! := ⟨_, rfl⟩
  have hds : d.size = l.length := by rw [hd]; simp
  have hdg : ∀ (j : Nat) x, l[j]? = some x → d[j]! = x := by
   intro j x hx
   rw [hd]
   obtain ⟨hj, rfl⟩ := List.getElem?_eq_some_iff.1 hx
   rw [getElem!_pos l.toArray j (by simpa using hj)]
   simp
  have I0 : KeptInv kp d (k0 + 1) k0 d := KeptInv.start
   (fun j hj => by
    have hjl : j < l.length := by omega
    rw [hkp]
    show (!p d[j]!) = true
    rw [hdg j _ (List.getElem?_eq_getElem hjl), hlow j _ hj (List.getElem?_eq_getElem hjl)]
    rfl)
   (by
    rw [hkp]
    show (!p d[k0]!) = false
    rw [hdg k0 _ (List.getElem?_eq_getElem hk0), hhit _ (List.getElem?_eq_getElem hk0)]
    rfl)
  have hfil : (l.filter fun x => !p x) = keptUpTo kp d d.size := by rw [hkp, keptUpTo_filter (fun x => !p x) d, hd]
  have HFI := Lib.hid hfil
  have hne : ((k0 : Int) == -1) = false := beq_eq_false_iff_ne.2 (by omega)
  obtain ⟨q, hq⟩ : ∃ q, l.length = q + 1 := ⟨l.length - 1, by omega⟩
  obtain ⟨g, c', he⟩ := own_some (hq ▸ HO.out)
  obtain ⟨rfl, rfl⟩ : A = some ⟨g, 0, none⟩ ∧ c' = cap := by cases he; exact ⟨rfl, rfl⟩
  obtain ⟨cs, hcs⟩ := own_cells HO.out (k := g) rfl
  have hgb : base ≤ g := own_ge HO.out g rfl
  have hcap : l.length ≤ c' := by obtain ⟨_, _, e1, e2, _⟩ := own_form HO.out; cases e1; exact e2
  have E0 : EntA cs d := by
   intro k x hx
   rw [hd] at hx
   obtain ⟨b, o, eb, hb, c0, c1, c2⟩ := HR.out k x (by simpa using hx)
   cases eb
   rw [Nat.zero_add] at c0 c1 c2
   rw [hcs.cell] at c0 c1 c2
   exact ⟨c0, c1, c2⟩
  clear hlow hhit hfil hq he hdg
  have hB1 := hcs.fr hf1 id
  have hf1' : Fr (fun k => k = g) w w1 := hf1.mono (fun _ _ h => h.elim)
  clear hf1 hcs HI
  have HE0 := Lib.hid E0
  have HI0 := Lib.hid I0
  have HKP := Lib.hid hkp
  have HDS := Lib.hid hds
  clear E0 I0 hkp hds hd
  go_upto_region 5 with fail
  go_loopw [5, 6, 7] (fun s5 s6 _ wr => ∃ (i j : Nat) (dk : Array Ent) (cs : Array Value), s5 = .int .i64 i ∧ s6 = .int .i64 j ∧ j ≤ l.length ∧ Hid (KeptInv kp d j i dk) ∧ Blk wr g 119 cs ∧ Hid (EntA cs dk) ∧ Fr (fun k => k = g) w wr) (fun _ s6 _ _ => l.length - (RowKit.intOf s6).toNat)
  case atStart => exact ⟨k0, k0 + 1, d, cs, rfl, by go_num, by omega, HI0, hB1, HE0, hf1'⟩
  case round =>
   clear hB1 hf1' HE0 HI0
   obtain ⟨i, j, dk, cs, rfl, rfl, hjd, HI, hB, HE, hf⟩ := hrel
   have hij := HI.out.lt
   by_cases hlt : j < l.length
   ·have hlt' : (j : Int) < (l.length : Int) := by omega
    obtain ⟨x, hx⟩ : ∃ x, x = d[j]! := ⟨_, rfl⟩
    have hdk : dk[j]? = some x := by
     have h1 := HI.out.high j (by omega)
     have h2 : j < dk.size := by have := HI.out.size; have := HDS.out; omega
     rw [Array.getElem?_eq_getElem h2, hx, ← h1, getElem!_pos dk j h2]
    obtain ⟨e0, e1, e2⟩ := HE.out j x hdk
    have c0 := hB.cell (j * 3)
    have c1 := hB.cell (j * 3 + 1)
    have c2 := hB.cell (j * 3 + 2)
    rw [e0] at c0
    rw [e1] at c1
    rw [e2] at c2
    have HX := Lib.hid hx
    clear e0 e1 e2 hdk hx
    go_upto_region 8 with fail
    have hX := Blk.new wr 119 #[.string x.1, .string x.2.1, .int .i64 x.2.2]
    have hBa := hB.alloc (Obj.cells #[.string x.1, .string x.2.1, .int .i64 x.2.2] 119)
    have hfa := hf.alloc (Obj.cells #[.string x.1, .string x.2.1, .int .i64 x.2.2] 119)
    generalize wr.alloc (Obj.cells #[.string x.1, .string x.2.1, .int .i64 x.2.2] 119) = wa at *
    have HK := HP.out wa x (hfa.mono (fun k _ e => by rw [e]; rfl))
    have y0 := hX.cell 0
    have y1 := hX.cell 1
    have y2 := hX.cell 2
    clear c0 c1 c2 hB hf
    have hij' : i < dk.size := by have := HI.out.size; have := HDS.out; omega
    cases hp : p x with
    | false =>
     rw [hp] at HK
     replace HK := Lib.hid HK
     have hkj : Hid (kp j = true) := by show kp j = true; rw [HKP.out]; show (!p d[j]!) = true; rw [← HX.out, hp]; rfl
     clear hp
     go_upto_region 9 with (go_at_call 83; refine HK.out.mono ?_; rintro e w3 ⟨rfl, hf3⟩)
     have hB3 := hBa.fr hf3 id
     have hX3 := hX.fr hf3 id
     have hf03 := hfa.then_ hf3
     have hth : w3.there g (i * 3) 3 := hB3.there (by have := HE.out.lt hij'; omega)
     clear hBa hX hfa y0 y1 y2 hf3
     have y0 := hX3.cell 0
     have y1 := hX3.cell 1
     have y2 := hX3.cell 2
     have hil : (i : Int) < (l.length : Int) := by omega
     go_wp2_with (refine wpList_store_mid rfl 119 (.tmp 33) (.tmp 32) rfl g (i * 3) #[.string x.1, .string x.2.1, .int .i64 x.2.2] rfl rfl hth (by kernel_rfl) (by simp [Value.oneCell']) ?_)
     have hKI : Hid (KeptInv kp d (j + 1) (i + 1) (dk.setIfInBounds i x)) := by
      have := HI.out.keep (by have := HDS.out; omega) hkj.out
      rw [← HX.out] at this
      exact this
     go_roundw
     case rel => exact ⟨i + 1, j + 1, dk.setIfInBounds i x, _, by go_num, by go_num, by omega, hKI, ((hB3.set_ (i * 3) _).set_ (i * 3 + 1) _).set_ (i * 3 + 1 + 1) _, HE.out.set_ hij' x, Fr.setCells_ (S := fun k => k = g) (fun _ => rfl) _ _ hf03⟩
     case measure => simp [RowKit.intOf]; omega
    | true =>
     rw [hp] at HK
     replace HK := Lib.hid HK
     have hkj : Hid (kp j = false) := by show kp j = false; rw [HKP.out]; show (!p d[j]!) = false; rw [← HX.out, hp]; rfl
     clear hp
     go_wp2_with (go_at_call 83; refine HK.out.mono ?_; rintro e w3 ⟨rfl, hf3⟩)
     go_roundw
     case rel => exact ⟨i, j + 1, dk, cs, rfl, by go_num, by omega, HI.out.skip hkj.out, hBa.fr hf3 id, HE, hfa.then_ hf3⟩
     case measure => simp [RowKit.intOf]; omega
   ·obtain rfl : j = l.length := by omega
    have hi2 : i < dk.size := by have := HI.out.size; have := HDS.out; omega
    have hz : (Value.agg #[.string ⟨#[]⟩, .string ⟨#[]⟩, .int .i64 0]).cells = #[.string ⟨#[]⟩, .string ⟨#[]⟩, .int .i64 0] := rfl
    have hbig : ∀ q, q < (l.length - i) * (Value.agg #[.string ⟨#[]⟩, .string ⟨#[]⟩, .int .i64 0]).cells.size → i * 3 + q < cs.size := by
     intro q hq
     rw [hz] at hq
     have h1 : l.length - 1 < dk.size := by have := HI.out.size; have := HDS.out; omega
     have h2 := HE.out.lt h1
     have h3 : (#[Value.string ⟨#[]⟩, .string ⟨#[]⟩, .int .i64 0] : Array Value).size = 3 := rfl
     rw [h3] at hq
     omega
    have hcl : ∀ ty, (Builtin.clear_ #[31] ty #[.slice (some ⟨g, i * 3, none⟩) (l.length - i) (c' - i)]).run Tryz.prog wr = .ok (.tuple #[]) (wr.setCells g (i * 3) (Builtin.zeroCells (Value.agg #[.string ⟨#[]⟩, .string ⟨#[]⟩, .int .i64 0]).cells (l.length - i)).toList) := fun ty =>
     run_clear_big wr _ _ ty _ Tryz.underlying31 entry_zero g (i * 3) _ _ (by omega)
      (fun v hv => by
       rw [hz] at hv
       simp only [Builtin.zeroCells, Array.toList_map, Array.toList_range, List.mem_map, List.mem_range] at hv
       obtain ⟨q, _, rfl⟩ := hv
       have h3 : (#[Value.string ⟨#[]⟩, .string ⟨#[]⟩, .int .i64 0] : Array Value).size = 3 := rfl
       rw [h3]
       have : q % 3 = 0 ∨ q % 3 = 1 ∨ q % 3 = 2 := by omega
       rcases this with e | e | e <;> rw [e] <;> rfl)
      (fun q hq => by rw [hB.cell, Array.getElem?_eq_getElem (hbig q hq)]; rfl) (fun q _ => hB.frozen _)
    have HFZ := Lib.hid (Fr.setCells_ (S := fun k => k = g) (b := g) (fun _ => rfl) (Builtin.zeroCells (Value.agg #[.string ⟨#[]⟩, .string ⟨#[]⟩, .int .i64 0]).cells (l.length - i)).toList (i * 3) hf)
    have HCO := Lib.hid (fun x hx => World.cell?_setCells_out g (Builtin.zeroCells (Value.agg #[.string ⟨#[]⟩, .string ⟨#[]⟩, .int .i64 0]).cells (l.length - i)).toList (i * 3) wr x hx)
    generalize wr.setCells g (i * 3) (Builtin.zeroCells (Value.agg #[.string ⟨#[]⟩, .string ⟨#[]⟩, .int .i64 0]).cells (l.length - i)).toList = wz at *
    have hil : (i : Int) < (l.length : Int) := by omega
    have HB := Lib.hid hB
    have hci : ¬ c' = i := by omega
    clear hbig hz hB hf
    go_wp2
    go_ret
    have hsz : d.size = l.length := HDS.out
    have hIK := HI.out
    rw [← hsz] at hIK
    refine ⟨_, i, c', rfl, by rw [HFI.out, hIK.len], by omega, ?_, HFZ.out.mono (fun k _ e => by rw [e]; rfl)⟩
    rw [HFI.out]
    intro k x hx
    have hki : k < i := by
     have := (List.getElem?_eq_some_iff.1 hx).1
     rw [hIK.len] at this
     exact this
    have hlow := hIK.low k hki
    rw [hx] at hlow
    have hkd : k < dk.size := by omega
    have hxd : dk[k]? = some x := by rw [Array.getElem?_eq_getElem hkd, Option.some.inj hlow, getElem!_pos dk k hkd]
    obtain ⟨e0, e1, e2⟩ := HE.out k x hxd
    refine ⟨g, 0, rfl, hgb, ?_, ?_, ?_⟩
    ·rw [HCO.out _ (fun _ _ => .inl (by dsimp only; omega)), Nat.zero_add, HB.out.cell]; exact e0
    ·rw [HCO.out _ (fun _ _ => .inl (by dsimp only; omega)), Nat.zero_add, HB.out.cell]; exact e1
    ·rw [HCO.out _ (fun _ _ => .inl (by dsimp only; omega)), Nat.zero_add, HB.out.cell]; exact e2
theorem ownsRow_built (w : World) {base : Nat} (e : TypeId) (size : Nat) (hb : base ≤ w.heap.size) : (w.alloc (.cells #[] e)).ownsRow base e size (.slice (some ⟨w.heap.size, 0, none⟩) 0 0) 0 [] :=
 ⟨by simp, .inr ⟨w.heap.size, 0, #[], rfl, hb, heap_alloc_new w _, Nat.le_refl _, by simp only [maxLen]; omega, by simp, by simp⟩⟩
theorem entsV_len : ∀ (l : List Ent), (entsV l).length = l.length * 3
 | [] => rfl
 | x :: l => by
  have := entsV_len l
  unfold entsV at this ⊢
  rw [List.flatMap_cons, List.length_append, this]
  simp only [List.length_cons, List.length_nil]
  omega
theorem entRow_news {w : World} {F : Nat → Prop} {b o : Nat} {l : List Ent} (h : EntRow w F (some ⟨b, o, none⟩) l) : ∀ (j : Nat) u, (entsV l)[j]? = some u → w.cell? ((⟨b, o, none⟩ : Addr).add j) = some u := by
 intro j u hu
 rw [add_at]
 have hj := (List.getElem?_eq_some_iff.1 hu).1
 rw [entsV_len] at hj
 have hq : j / 3 < l.length := by omega
 obtain ⟨x, hx⟩ : ∃ x, l[j / 3]? = some x := ⟨_, List.getElem?_eq_getElem hq⟩
 obtain ⟨h0, h1, h2⟩ := triples_at (f := fun x => .string x.1) (g := fun x => .string x.2.1) (h := fun x => .int .i64 x.2.2) hx
 obtain ⟨b', o', e, _, c0, c1, c2⟩ := h _ x hx
 cases e
 have : j = j / 3 * 3 ∨ j = j / 3 * 3 + 1 ∨ j = j / 3 * 3 + 2 := by omega
 unfold entsV at hu
 rcases this with e | e | e
 ·rw [e] at hu ⊢
  rw [h0] at hu
  rw [← hu]; exact c0
 ·rw [e] at hu ⊢
  rw [h1] at hu
  rw [← hu]; exact c1
 ·rw [e] at hu ⊢
  rw [h2] at hu
  rw [← hu]; exact c2
theorem entsV_one (l : List Ent) : ∀ u ∈ entsV l, u.oneCell' = true := by
 intro u hu
 unfold entsV at hu
 obtain ⟨x, _, h⟩ := List.mem_flatMap.1 hu
 simp only [List.mem_cons, List.not_mem_nil, or_false] at h
 rcases h with rfl | rfl | rfl <;> rfl
theorem ent_info : ∃ i, (Tryz.prog).info? 119 = some i ∧ i.zero = some (.agg #[.string ⟨#[]⟩, .string ⟨#[]⟩, .int .i64 0]) ∧ i.size = 3 ∧ i.bytes = 40 := by
 have h := entry_info
 cases hi : (Tryz.prog).info? 119 with
 | none => rw [hi] at h; cases h
 | some i =>
  rw [hi] at h
  simp only [Option.map_some, Option.some.injEq, Prod.mk.injEq] at h
  exact ⟨i, rfl, h.1, h.2.1, h.2.2⟩
def EntOwn (w w' : World) (l : List Ent) (e : Ending) : Prop := ∃ v, e = .returned v ∧ w'.ownsRow w.heap.size 119 3 v l.length (entsV l) ∧ Fr (fun _ => False) w w'
theorem cloneEnt {w : World} {F : Nat → Prop} {A : Option Addr} {l : List Ent} {cap : Nat} (h : EntRow w F A l) (hll : l.length ≤ 1000000) :
  Calls Tryz.prog 82 #[.slice A l.length cap] w fun e w' => EntOwn w w' l e := by
 have hq := fun w' A n => @Lib.run_eql_slice_nil Tryz.prog w' 31 119 A n cap 0 0 Tryz.underlying31
 cases l with
 | nil =>
  cases A with
  | none =>
   go_enter Tryz.func82, Tryz.ntmps82
   go_wp2
   go_ret
   exact ⟨.slice none 0 0, rfl, World.ownsRow_nil _ _ _ _, Fr.refl _ _⟩
  | some a =>
   go_enter Tryz.func82, Tryz.ntmps82
   go_wp2
   go_ret
   exact ⟨.slice (some ⟨w.heap.size, 0, none⟩) 0 0, rfl, ownsRow_built w _ _ (Nat.le_refl _), (Fr.refl (fun _ => False) w).alloc _⟩
 | cons x r =>
  obtain ⟨b, o, rfl, hb, _⟩ := h 0 x rfl
  obtain ⟨i, hi, hz, hsz, hby⟩ := ent_info
  have hn := entRow_news (h.fr ((Fr.refl (fun _ => False) w).alloc (Obj.cells #[] 119)) (fun _ _ => id))
  have hlen : (entsV (x :: r)).length = (x :: r).length * 3 := entsV_len _
  have h1 := entsV_one (x :: r)
  obtain ⟨ys, hys⟩ : ∃ ys, entsV (x :: r) = ys := ⟨_, rfl⟩
  rw [hys] at hn hlen h1
  have HYS := Lib.hid hys
  obtain ⟨n, hnn⟩ : ∃ n, (x :: r).length = n := ⟨_, rfl⟩
  have hn0 : 0 < n := by rw [← hnn]; simp
  rw [hnn] at hlen hll ⊢
  have HNN := Lib.hid hnn
  clear h hys hnn
  go_enter Tryz.func82, Tryz.ntmps82
  go_wp2_with (at_builtin; refine wpList_append_lies _ rfl (.tmp 5) (.tmp 6) 31 rfl w.heap.size 119 i _ 3 40 Tryz.underlying31 hi hz hsz hby rfl (by decide) (.slice (some ⟨w.heap.size, 0, none⟩) 0 0) 0 [] rfl (ownsRow_built w _ _ (Nat.le_refl _)) ⟨b, o, none⟩ n cap ys rfl hlen hn h1 hn0 (by simp only [maxLen]; omega) (by omega) (by simp) _ rfl ?_; intro g2 c2 w2 hown2 hg2 hk2 hl2)
  go_ret
  have hf2 : Fr (fun _ => False) w w2 := ((Fr.refl (fun _ => False) w).alloc (Obj.cells #[] 119)).grown hg2 (fun k hk e => by simp [Value.ownBlock] at e; omega)
  refine ⟨_, rfl, ?_, hf2⟩
  rw [HNN.out, HYS.out]
  simpa using hown2
end Go.Proofs.YtmkdhhhoodeemaaGreat
namespace Go.Proofs.YtmkdhhhoodeemaaGreat
open Go Go.RowKit
def halfN (n : Nat) : Nat := 2 ^ (Lib.bitLen (n - 1) - 1)
theorem halfN_lt {n : Nat} (h2 : 2 ≤ n) (hn : n ≤ 65536) : 1 ≤ halfN n ∧ halfN n < n := by
 obtain ⟨b1, b2, b3⟩ := Lib.bitLenAux_bounds 64 (n - 1) (by omega) (by omega)
 have e0 : Lib.bitLenAux 64 (n - 1) = Lib.bitLen (n - 1) := rfl
 rw [e0] at b1 b2 b3
 obtain ⟨m, hm⟩ : ∃ m, Lib.bitLen (n - 1) = m + 1 := ⟨Lib.bitLen (n - 1) - 1, by omega⟩
 unfold halfN
 rw [hm] at b2 ⊢
 have hp : 1 ≤ 2 ^ m := Nat.one_le_two_pow
 simp at b2 ⊢
 omega
theorem merkle_halfN (w : World) (n : Nat) (h2 : 2 ≤ n) (hn : n ≤ 65536) :
  Calls Tryz.prog 118 #[.int .i64 n] w fun e w' => e = .returned (.int .i64 (halfN n)) ∧ w = w' := by
 have H := fun w => bits_Len_2 (n - 1) (by omega) w
 have hs : ((n : Int) - 1) = ((n - 1 : Nat) : Int) := by omega
 obtain ⟨b1, b2, b3⟩ := Lib.bitLenAux_bounds 64 (n - 1) (by omega) (by omega)
 have b4 : Lib.bitLen (n - 1) ≤ 16 := Lib.bitLen_le _ 16 (by omega) (by omega)
 have e0 : Lib.bitLenAux 64 (n - 1) = Lib.bitLen (n - 1) := rfl
 rw [e0] at b1 b2 b3
 obtain ⟨m, hm⟩ : ∃ m, Lib.bitLen (n - 1) = m + 1 := ⟨Lib.bitLen (n - 1) - 1, by omega⟩
 have hkk : halfN n = 2 ^ m := by unfold halfN; rw [hm]; rfl
 rw [hm] at H b1 b2 b3 b4
 have hlt : 2 ^ m < n := by simp at b2; omega
 have hw4 : wrap64 ((2 : Int) ^ m) = ((2 ^ m : Nat) : Int) := by
  rw [show ((2 : Int) ^ m) = ((2 ^ m : Nat) : Int) by simp]
  unfold wrap64
  omega
 rw [← hkk] at hlt hw4
 clear hkk
 generalize halfN n = k at *
 have hw : wrap64 (((m + 1 : Nat) : Int) - 1) = (m : Int) := by unfold wrap64; omega
 have hw2 : wrap64 ((m : Int) + 1 - 1) = (m : Int) := by unfold wrap64; omega
 have hw3 : wrap64 (m : Int) = (m : Int) := by unfold wrap64; omega
 replace H := Lib.hid H
 clear e0 b1 b2 b3
 go_enter Tryz.func118, Tryz.ntmps118
 go_wp2_with (go_at_call 144; refine (H.out _).mono ?_; rintro e w' ⟨rfl, rfl⟩)
 go_ret
 exact ⟨by rw [← hw4]; rfl, rfl⟩
structure Down (w : World) (bf bm bd bp bt bl : Nat) (N : Nat) : Prop where
 f : w.cell? ⟨bf, 0, none⟩ = some (.int .i64 0)
 m : w.cell? ⟨bm, 0, none⟩ = some (.int .i64 N)
 d : w.cell? ⟨bd, 0, none⟩ = some (.func (.func 115) #[] #[.pointer (some ⟨bf, 0, none⟩), .pointer (some ⟨bm, 0, none⟩), .pointer (some ⟨bp, 0, none⟩), .pointer (some ⟨bt, 0, none⟩), .pointer (some ⟨bl, 0, none⟩), .pointer (some ⟨bd, 0, none⟩)])
theorem Down.drewN {w : World} {bf bm bd bp bt bl N : Nat} (h : Down w bf bm bd bp bt bl N) (n : Nat) : Down (w.drewN n) bf bm bd bp bt bl N := ⟨h.f, h.m, h.d⟩
theorem prove1_down {bf bm bd bp bt bl N : Nat} (hN : N ≤ 65536) : ∀ (n : Nat) (at_ : Nat) (w : World), 1 ≤ n → at_ + n ≤ N → Down w bf bm bd bp bt bl N →
  Calls Tryz.prog 115 #[.int .i64 at_, .int .i64 n, .pointer (some ⟨bf, 0, none⟩), .pointer (some ⟨bm, 0, none⟩), .pointer (some ⟨bp, 0, none⟩), .pointer (some ⟨bt, 0, none⟩), .pointer (some ⟨bl, 0, none⟩), .pointer (some ⟨bd, 0, none⟩)] w (fun e w' => e = .returned (.tuple #[]) ∧ ∃ m, w' = w.drewN m) := by
 intro n
 induction n using Nat.strongRecOn with
 | _ n ih =>
  intro at_ w hn hat hD
  have HA := Lib.hid (merkle_apart w at_ n 0 N ⟨by omega, by omega⟩ ⟨by omega, by omega⟩)
  rw [decide_eq_false (by omega)] at HA
  have kf := hD.f
  have km := hD.m
  have IH := Lib.hid ih
  clear ih
  by_cases h1 : 1 < n
  ·obtain ⟨p1, p2⟩ := halfN_lt (n := n) (by omega) (by omega)
   have h1' : (1 : Int) < (n : Int) := by omega
   have HH := Lib.hid (fun w => merkle_halfN w n (by omega) (by omega))
   obtain ⟨k, hk⟩ : ∃ k, halfN n = k := ⟨_, rfl⟩
   rw [hk] at HH p1 p2
   clear hk
   have hs1 : wrap64 ((at_ : Int) + (k : Int)) = ((at_ + k : Nat) : Int) := by unfold wrap64; omega
   have hs2 : wrap64 ((n : Int) - (k : Int)) = ((n - k : Nat) : Int) := by unfold wrap64; omega
   have kd := hD.d
   have HI2 : Hid (∀ w, Down w bf bm bd bp bt bl N → Calls Tryz.prog 115 #[.int .i64 ((at_ : Int) + k), .int .i64 ((n : Int) - k), .pointer (some ⟨bf, 0, none⟩), .pointer (some ⟨bm, 0, none⟩), .pointer (some ⟨bp, 0, none⟩), .pointer (some ⟨bt, 0, none⟩), .pointer (some ⟨bl, 0, none⟩), .pointer (some ⟨bd, 0, none⟩)] w (fun e w' => e = .returned (.tuple #[]) ∧ ∃ m, w' = w.drewN m)) := fun w h => by
    have := IH.out (n - k) (by omega) (at_ + k) w (by omega) (by omega) h
    rw [show ((at_ + k : Nat) : Int) = (at_ : Int) + k by omega, show ((n - k : Nat) : Int) = (n : Int) - k by omega] at this
    exact this
   go_enter Tryz.func115, Tryz.ntmps115
   go_upto_region 3 with (go_at_call 116; refine HA.out.mono ?_; rintro e w1 ⟨rfl, rfl⟩)
   go_quiet (first
    | (go_at_call 118; exact quiet_left (HH.out _))
    | (go_at_call 115; exact (IH.out k p2 at_ _ p1 (by omega) (hD.drewN _)).mono (fun _ _ ⟨he, m, hm⟩ => ⟨he, _, hm.trans (World.drewN_drewN _ _ _)⟩)))
   go_upto_region 4 with fail
   generalize nq = n1
   obtain ⟨w2, hw2⟩ : ∃ w2, w.drewN n1 = w2 := ⟨_, rfl⟩
   have hD2 : Down w2 bf bm bd bp bt bl N := hw2 ▸ hD.drewN n1
   have HW2 := Lib.hid hw2
   rw [hw2]
   clear hw2 kf km kd hD
   have kd := hD2.d
   go_quiet (first
    | (go_at_call 118; exact quiet_left (HH.out _))
    | (go_at_call 115; with_reducible exact (HI2.out _ (hD2.drewN _)).mono (fun _ _ ⟨he, m, hm⟩ => ⟨he, _, hm.trans (World.drewN_drewN _ _ _)⟩)))
   go_wp2_with fail
   refine bodyPost_end (v := .tuple #[]) (by simp [results, go_sem]) rfl ?_
   refine ⟨rfl, n1 + nq, ?_⟩
   rw [← HW2.out]
   exact World.drewN_drewN _ _ _
  ·have h1' : ¬ (1 : Int) < (n : Int) := by omega
   go_enter Tryz.func115, Tryz.ntmps115
   go_wp2_with (go_at_call 116; refine HA.out.mono ?_; rintro e w1 ⟨rfl, rfl⟩)
   refine bodyPost_end (v := .tuple #[]) (by simp [results, go_sem]) rfl ?_
   exact ⟨rfl, 0, rfl⟩
theorem BookAt.farB {w w' : World} {g m base : Nat} {v : Value} {L : List (List Int)} (h : BookAt w g m base v L) {x : Nat} {t : TypeId} {cs : Array Value} (hB : Blk w x t cs) (h1 : t ≠ 125) (h2 : 9 ≠ t) (hf : Fr (fun k => k = g ∨ k = m ∨ v.ownBlock = some k) w w') : Blk w' x t cs :=
 hB.fr hf (fun e => by
  rcases e with e | e | e
  ·exact hB.ne_ h.blk h1 e
  ·obtain ⟨⟨es, cl, h3, _⟩, _⟩ := h.map
   exact hB.ne_map h3 e
  ·exact own_ne_blk h.own hB h2 e)
def DigM (w : World) (g m base gt : Nat) (v : Value) (L : List (List Int)) (xs : List Int) (e : Ending) (w' : World) : Prop :=
 ∃ v', e = .returned (.int .i64 (digI L xs : Nat)) ∧ BookAt w' g m base v' (digL L xs) ∧ Blk w' gt 208 #[.pointer (some ⟨g, 0, none⟩), .nilIface] ∧ Fr (fun k => k = g ∨ k = m ∨ v.ownBlock = some k ∨ k = gt) w w' ∧ ∀ k, v'.ownBlock = some k → v.ownBlock = some k ∨ w.heap.size ≤ k
theorem merkle_digest1 {w : World} {g m base gt bx : Nat} {v : Value} {L : List (List Int)} (hb : BookAt w g m base v L) (hbase : base ≤ w.heap.size) (hL : L.length < 65536) (ht : Blk w gt 208 #[.pointer (some ⟨g, 0, none⟩), .nilIface]) {s : ByteArray} (hs : s.size ≤ 65000) (hx : w.cell? ⟨bx, 0, none⟩ = some (.string s)) :
  Calls Tryz.prog 141 #[.pointer (some ⟨gt, 0, none⟩), .slice (some ⟨bx, 0, none⟩) 1 1, .slice none 0 0] w (DigM w g m base gt v L (textB (bytesOf s))) := by
 have hf0 : Fr (fun _ => False) w (w.alloc (Obj.cells #[.slice none 0 0, .nilIface] 194)) := (Fr.refl _ _).alloc _
 have hW0 : WriterAt (w.alloc (Obj.cells #[.slice none 0 0, .nilIface] 194)) w.heap.size w.heap.size (.slice none 0 0) [] none := ⟨Blk.new_ _ _ _ rfl, Own8.nil _ _⟩
 have hz0 : w.heap.size < (w.alloc (Obj.cells #[.slice none 0 0, .nilIface] 194)).heap.size := by simp
 have h8 := Lib.hid (b8_textB s)
 have hl8 : Hid ((textB (bytesOf s)).length ≤ 65536) := by show _ ≤ _; rw [textB_len]; omega
 have hx0 := hf0.cell_some hx id
 go_enter Tryz.func141, Tryz.ntmps141
 go_upto_region 3 with fail
 generalize w.alloc (Obj.cells #[.slice none 0 0, .nilIface] 194) = w0 at *
 go_loopw [19] (fun ix wr => (ix = .int .i64 0 ∧ wr = w0) ∨ (ix = .int .i64 1 ∧ ∃ v2, WriterAt wr w.heap.size w.heap.size v2 (textB (bytesOf s)) none ∧ Fr (fun _ => False) w wr)) (fun ix _ => 1 - (intOf ix).toNat)
 case atStart => exact .inl ⟨rfl, rfl⟩
 case round =>
  rcases hrel with ⟨rfl, rfl⟩ | ⟨rfl, v2, hW2, hf2⟩
  ·have hcs := run_str wr s
   have hws := hW0.fr (strW_fr wr s) id (fun _ _ => id)
   have hfs := hf0.then_ (strW_fr wr s)
   have hzs : w.heap.size ≤ (strW wr s).heap.size := Nat.le_trans (Nat.le_of_lt hz0) (strW_fr wr s).size
   have HT := writer_Text (cap := grownCap wr s.size 0 5) hws hzs (strW_row wr s) (fun k e1 e2 => own8_new hW0.own (e1 ▸ e2)) (by rw [bytesOf_length]; simp; omega)
   rw [if_pos (by rw [bytesOf_length]; omega), bytesOf_length] at HT
   replace HT := Lib.hid HT
   go_wp2_with (go_at_call 99; refine HT.out.mono ?_; rintro e w8 ⟨v8, rfl, hW8, hq8, _⟩)
   have hW8 : WriterAt w8 w.heap.size w.heap.size v8 ([] ++ textB (bytesOf s)) none := hW8
   rw [List.nil_append] at hW8
   have hf8 := wrote_fr hfs hws.own (Nat.le_refl _) (Nat.le_refl _) hq8
   go_roundw
   case rel => exact .inr ⟨by go_num, v8, hW8, hf8⟩
   case measure => simp [intOf]
  ·clear hW0 hx0 hf0 hz0
   go_upto_region 8 with fail
   go_loopw [30] (fun ix wr' => ix = .int .i64 0 ∧ wr' = wr) (fun _ _ => 0)
   case atStart => exact ⟨rfl, rfl⟩
   case round =>
    obtain ⟨rfl, rfl⟩ := hrel
    generalize wr = w2 at *
    have HB := Lib.hid (writer_Bytes hW2 (by have := hl8.out; omega))
    go_upto_region 13 with (go_at_call 100; refine HB.out.mono ?_; rintro e w3 ⟨v3, rfl, hv3, hf3⟩; obtain ⟨A3, c3, rfl, _, hr3⟩ := hv3.form)
    have hf03 := hf2.then_ hf3
    have hb3 := hb.keep hf03
    have ht3 := ht.fr hf03 id
    have t0 := ht3.cell 0
    have t1 := ht3.cell 1
    have hr3 : ByteRow w3 _ A3 (textB (bytesOf s)) := hr3
    have HD := book_Digest (cap := c3) hb3 (Nat.le_trans hbase hf03.size) hr3 h8.out hl8.out hL
    have hwb : wbytes (textB (bytesOf s)) none = textB (bytesOf s) := rfl
    have hnil : errW none = .nilIface := rfl
    rw [hwb, hnil]
    replace HD := Lib.hid HD
    clear hwb hnil hW2 hv3 hr3 HB hf3 hb ht hf2 hx
    generalize textB (bytesOf s) = xs at *
    go_upto_region 17 with (go_at_call 41; refine HD.out.mono ?_; rintro e w4 ⟨v4, rfl, hb4, hf4, hk4⟩; have ht4 := hb3.farB ht3 (by decide) (by decide) hf4; have t0 := ht4.cell 0; have t1 := ht4.cell 1; have tf := ht4.frozen 1)
    go_wp2_with (go_at_call 70; refine (fault_Wrap_nil _ _ _).mono ?_; rintro e w' ⟨rfl, rfl⟩)
    go_ret
    have hne : g ≠ gt ∧ m ≠ gt ∧ v4.ownBlock ≠ some gt := ⟨fun e => hb4.blk.ne_ ht4 (by decide) e, fun e => by obtain ⟨⟨es, cl, h1, _⟩, _⟩ := hb4.map; exact ht4.ne_map h1 e.symm, own_ne_blk hb4.own ht4 (by decide)⟩
    refine ⟨v4, rfl, hb4.fr ((Fr.refl (fun k => k = gt) w4).setCell (p := ⟨gt, 1, none⟩) (fun _ => rfl) _) hne.1 hne.2.1 (fun k hk e => hne.2.2 (e ▸ hk)), ht4.set_ 1 _, ?_, fun k hk => (hk4 k hk).imp_right (Nat.le_trans hf03.size)⟩
    exact ((hf03.mono (fun _ _ h => h.elim)).trans hf4 (fun k _ h => h.elim .inl (fun h => h.elim (fun h => .inr (.inl h)) (fun h => .inr (.inr (.inl h)))))).setCell (p := ⟨gt, 1, none⟩) (fun _ => .inr (.inr (.inr rfl))) _
def noneS : ByteArray := ⟨#[110, 111, 110, 101]⟩
def noneB : List Int := textB (bytesOf noneS)
def DigT (w : World) (g m base gt : Nat) (v : Value) (L : List (List Int)) (xs : List Int) (e : Ending) (w' : World) : Prop :=
 ∃ v', e = .returned (.tuple #[.int .i64 (digI L xs : Nat), .bool true]) ∧ BookAt w' g m base v' (digL L xs) ∧ Blk w' gt 208 #[.pointer (some ⟨g, 0, none⟩), .nilIface] ∧ Fr (fun k => k = g ∨ k = m ∨ v.ownBlock = some k ∨ k = gt) w w' ∧ ∀ k, v'.ownBlock = some k → v.ownBlock = some k ∨ w.heap.size ≤ k
theorem merkle_top1 {w : World} {g m base gt bt : Nat} {v : Value} {L : List (List Int)} (hb : BookAt w g m base v L) (hbase : base ≤ w.heap.size) (hL : L.length < 65536) (ht : Blk w gt 208 #[.pointer (some ⟨g, 0, none⟩), .nilIface]) (hx : w.cell? ⟨bt, 0, none⟩ = some (.pointer (some ⟨gt, 0, none⟩))) :
  Calls Tryz.prog 140 #[.int .i64 0, .int .i64 0, .pointer (some ⟨bt, 0, none⟩)] w (DigT w g m base gt v L noneB) := by
 have hf0 : Fr (fun _ => False) w (w.alloc (Obj.cells #[.string noneS] 9)) := (Fr.refl _ _).alloc _
 have hs0 := (Blk.new w 9 #[.string noneS]).cell 0
 have HD := merkle_digest1 (bx := w.heap.size) (s := noneS) (hb.keep hf0) (Nat.le_trans hbase hf0.size) hL (ht.fr hf0 id) (by decide) hs0
 rw [show textB (bytesOf noneS) = noneB from rfl] at HD
 replace HD := Lib.hid HD
 clear hs0
 generalize noneB = xs at *
 go_enter Tryz.func140, Tryz.ntmps140
 go_wp2_with (go_at_call 141; refine HD.out.mono ?_; rintro e w4 ⟨v4, rfl, hb4, ht4, hf4, hk4⟩)
 refine bodyPost_ret (v := .tuple #[.int .i64 (digI L xs : Nat), .bool true]) (by simp [results, Tryz.results140, go_sem]) rfl ?_
 exact ⟨v4, rfl, hb4, ht4, (hf0.mono (fun _ _ h => h.elim)).trans hf4 (fun _ _ h => h), fun k hk => (hk4 k hk).imp_right (Nat.le_trans hf0.size)⟩
theorem merkle_fold0 {w : World} {g m base gt bt : Nat} {v : Value} {L : List (List Int)} (hb : BookAt w g m base v L) (hbase : base ≤ w.heap.size) (hL : L.length < 65536) (ht : Blk w gt 208 #[.pointer (some ⟨g, 0, none⟩), .nilIface]) (hx : w.cell? ⟨bt, 0, none⟩ = some (.pointer (some ⟨gt, 0, none⟩))) (f2 : Value) :
  Calls Tryz.prog 139 #[.pointer (some ⟨gt, 0, none⟩), .int .i64 0, .int .i64 0, .func (.func 140) #[] #[.pointer (some ⟨bt, 0, none⟩)], f2] w (DigM w g m base gt v L noneB) := by
 have HD := Lib.hid (merkle_top1 hb hbase hL ht hx)
 go_enter Tryz.func139, Tryz.ntmps139
 go_wp2_with (go_at_call 140; refine HD.out.mono ?_; rintro e w4 ⟨v4, rfl, hb4, ht4, hf4, hk4⟩)
 go_ret
 exact ⟨v4, rfl, hb4, ht4, hf4, hk4⟩
theorem merkle_top0 {w : World} {g m base gt : Nat} {v : Value} {L : List (List Int)} (hb : BookAt w g m base v L) (hbase : base ≤ w.heap.size) (hL : L.length < 65536) (ht : Blk w gt 208 #[.pointer (some ⟨g, 0, none⟩), .nilIface]) (A : Option Addr) (cap : Nat) :
  Calls Tryz.prog 117 #[.pointer (some ⟨gt, 0, none⟩), .slice A 0 cap] w (DigM w g m base gt v L noneB) := by
 have hB0 := (Blk.new w 206 #[.pointer (some ⟨gt, 0, none⟩)]).alloc (Obj.cells #[.slice A 0 cap] 31)
 have hS0 : Blk ((w.alloc (Obj.cells #[.pointer (some ⟨gt, 0, none⟩)] 206)).alloc (Obj.cells #[.slice A 0 cap] 31)) (w.heap.size + 1) 31 #[.slice A 0 cap] := Blk.new_ _ _ _ (by simp)
 have hf0 : Fr (fun _ => False) w ((w.alloc (Obj.cells #[.pointer (some ⟨gt, 0, none⟩)] 206)).alloc (Obj.cells #[.slice A 0 cap] 31)) := ((Fr.refl _ _).alloc _).alloc _
 go_enter Tryz.func117, Tryz.ntmps117
 go_upto_region 1 with fail
 generalize ((w.alloc (Obj.cells #[.pointer (some ⟨gt, 0, none⟩)] 206)).alloc (Obj.cells #[.slice A 0 cap] 31)) = w1 at *
 have x0 := hB0.cell 0
 have y0 := hS0.cell 0
 have HD := Lib.hid (fun f2 => merkle_fold0 (hb.keep hf0) (Nat.le_trans hbase hf0.size) hL (ht.fr hf0 id) x0 f2)
 go_wp2_with (go_at_call 139; refine (HD.out _).mono ?_; rintro e w4 ⟨v4, rfl, hb4, ht4, hf4, hk4⟩)
 go_ret
 exact ⟨v4, rfl, hb4, ht4, (hf0.mono (fun _ _ h => h.elim)).trans hf4 (fun _ _ h => h), fun k hk => (hk4 k hk).imp_right (Nat.le_trans hf0.size)⟩
def DownZ (w : World) (g m base gt bp : Nat) (v : Value) (L : List (List Int)) (x0 x1 x2 : Value) (e : Ending) (w' : World) : Prop :=
 e = .returned (.tuple #[]) ∧ ∃ v' b c, BookAt w' g m base v' (digL L noneB) ∧ Blk w' gt 208 #[.pointer (some ⟨g, 0, none⟩), .nilIface] ∧ Blk w' bp 60 #[x0, x1, x2, .slice (some ⟨b, 0, none⟩) 1 c] ∧ w.heap.size ≤ b ∧ w'.cell? ⟨b, 0, none⟩ = some (.int .i64 (digI L noneB : Nat)) ∧ Fr (fun k => k = g ∨ k = m ∨ v.ownBlock = some k ∨ k = gt ∨ k = bp) w w' ∧ ∀ k, v'.ownBlock = some k → v.ownBlock = some k ∨ w.heap.size ≤ k
theorem downZ_done {w w1 w2 : World} {g m base gt bp b2 c2 : Nat} {v v1 : Value} {L : List (List Int)} {x0 x1 x2 : Value} {D : Int} (hD : ((digI L noneB : Nat) : Int) = D) (hb1 : BookAt w1 g m base v1 (digL L noneB)) (ht1 : Blk w1 gt 208 #[.pointer (some ⟨g, 0, none⟩), .nilIface]) (hf1 : Fr (fun k => k = g ∨ k = m ∨ v.ownBlock = some k ∨ k = gt) w.drew w1) (hk1 : ∀ k, v1.ownBlock = some k → v.ownBlock = some k ∨ w.drew.heap.size ≤ k) (hp1 : Blk w1 bp 60 #[x0, x1, x2, .slice none 0 0]) (h2 : w2.ownsRow w1.heap.size 3 1 (.slice (some ⟨b2, 0, none⟩) 1 c2) (0 + 1) ([] ++ [.int .i64 D])) (hf2 : Fr (fun k => (Value.slice none 0 0).ownBlock = some k) (w1.alloc (Obj.cells #[.int .i64 D] 3)) w2) :
  DownZ w g m base gt bp v L x0 x1 x2 (.returned (.tuple #[])) (w2.setCell ⟨bp, 3, none⟩ (.slice (some ⟨b2, 0, none⟩) 1 c2)) := by
 have hf2' : Fr (fun _ => False) (w1.alloc (Obj.cells #[.int .i64 D] 3)) w2 := hf2.mono (fun k _ e => by simp [Value.ownBlock] at e)
 have hf12 : Fr (fun _ => False) w1 w2 := ((Fr.refl (fun _ => False) w1).alloc (Obj.cells #[.int .i64 D] 3)).then_ hf2'
 have hp2 := hp1.fr hf12 id
 have ht2 := ht1.fr hf12 id
 have hb2 := hb1.keep hf12
 have hset : Fr (fun k => k = bp) w2 (w2.setCell ⟨bp, 3, none⟩ (.slice (some ⟨b2, 0, none⟩) 1 c2)) := (Fr.refl (fun k => k = bp) w2).setCell (p := ⟨bp, 3, none⟩) (fun _ => rfl) _
 have n1 : g ≠ bp := fun e => hb2.blk.ne_ hp2 (by decide) e
 have n2 : m ≠ bp := fun e => by obtain ⟨⟨es, cl, h1, _⟩, _⟩ := hb2.map; exact hp2.ne_map h1 e.symm
 have n3 : v1.ownBlock ≠ some bp := own_ne_blk hb2.own hp2 (by decide)
 have n4 : gt ≠ bp := ht2.ne_ hp2 (by decide)
 have n5 : (Value.slice (some ⟨b2, 0, none⟩) 1 c2).ownBlock ≠ some bp := own_ne_blk h2 hp2 (by decide)
 have h3 := own_fr h2 hset (fun k hk e => n5 (e ▸ hk))
 obtain ⟨_, _, ev, _, hat⟩ := own_form h3
 cases ev
 obtain ⟨b, eb, hbb, hc⟩ := hat 0 _ rfl
 cases eb
 refine ⟨rfl, v1, b2, c2, hb2.fr hset n1 n2 (fun k hk e => n3 (e ▸ hk)), ht2.fr hset n4, hp2.set_ 3 _, Nat.le_trans hf1.size hbb, by rw [hD]; exact hc, ?_, hk1⟩
 have hf1' : Fr (fun k => k = g ∨ k = m ∨ v.ownBlock = some k ∨ k = gt ∨ k = bp) w w1 := ((Fr.refl _ w).drew).trans hf1 (fun k _ h => by rcases h with h | h | h | h <;> simp [h])
 exact (hf1'.trans (hf12.mono (fun _ _ h => h.elim)) (fun _ _ h => h)).trans hset (fun k _ h => .inr (.inr (.inr (.inr h))))
theorem prove1_zero {w : World} {g m base gt bf bm bd bp bt bl : Nat} {v : Value} {L : List (List Int)} (hb : BookAt w g m base v L) (hbase : base ≤ w.heap.size) (hL : L.length < 65536) (ht : Blk w gt 208 #[.pointer (some ⟨g, 0, none⟩), .nilIface]) (hD : Down w bf bm bd bp bt bl 0) (kt : w.cell? ⟨bt, 0, none⟩ = some (.pointer (some ⟨gt, 0, none⟩))) {A : Option Addr} {cap : Nat} (kl : w.cell? ⟨bl, 0, none⟩ = some (.slice A 0 cap)) {x0 x1 x2 : Value} (hp : Blk w bp 60 #[x0, x1, x2, .slice none 0 0]) :
  Calls Tryz.prog 115 #[.int .i64 0, .int .i64 0, .pointer (some ⟨bf, 0, none⟩), .pointer (some ⟨bm, 0, none⟩), .pointer (some ⟨bp, 0, none⟩), .pointer (some ⟨bt, 0, none⟩), .pointer (some ⟨bl, 0, none⟩), .pointer (some ⟨bd, 0, none⟩)] w (DownZ w g m base gt bp v L x0 x1 x2) := by
 have HA := Lib.hid (merkle_apart w 0 0 0 0 ⟨by omega, by omega⟩ ⟨by omega, by omega⟩)
 have kf := hD.f
 have km := hD.m
 have p3 := hp.cell 3
 obtain ⟨D, hDD⟩ : ∃ D : Int, Hid (((digI L noneB : Nat) : Int) = D) := ⟨_, rfl⟩
 have HT : Hid (Calls Tryz.prog 117 #[.pointer (some ⟨gt, 0, none⟩), .slice A 0 cap] w.drew (fun e w' => ∃ v', e = .returned (.int .i64 D) ∧ BookAt w' g m base v' (digL L noneB) ∧ Blk w' gt 208 #[.pointer (some ⟨g, 0, none⟩), .nilIface] ∧ Fr (fun k => k = g ∨ k = m ∨ v.ownBlock = some k ∨ k = gt) w.drew w' ∧ ∀ k, v'.ownBlock = some k → v.ownBlock = some k ∨ w.drew.heap.size ≤ k)) := by
  have := merkle_top0 (w := w.drew) (hb.keep ((Fr.refl (fun _ => False) w).drew)) hbase hL ht.drew A cap
  unfold DigM at this
  rw [hDD.out] at this
  exact this
 have hne : Hid (¬ (bp = g ∨ bp = m ∨ v.ownBlock = some bp ∨ bp = gt)) := fun e => by
  rcases e with e | e | e | e
  ·exact hp.ne_ hb.blk (by decide) e
  ·obtain ⟨⟨es, cl, h3, _⟩, _⟩ := hb.map
   exact hp.ne_map h3 e
  ·exact own_ne_blk hb.own hp (by decide) e
  ·exact hp.ne_ ht (by decide) e
 have hw0 : IntKind.i64.wrap 0 = 0 := by decide
 have hfd : Fr (fun _ => False) w w.drew := (Fr.refl _ _).drew
 have hpd : Blk w.drew bp 60 #[x0, x1, x2, .slice none 0 0] := hp.drew
 go_enter Tryz.func115, Tryz.ntmps115
 go_upto_region 1 with (go_at_call 116; refine HA.out.mono ?_; rintro e w1 ⟨rfl, rfl⟩)
 go_region_law (first
  | (refine step_append_gen rfl (.tmp 19) (.tmp 28) 30 3 rfl Tryz.underlying30 int_info rfl w1.heap.size (.slice none 0 0) 0 [] (by rfl) (World.ownsRow_nil _ _ _ _) ⟨w1.heap.size, 0, none⟩ 1 1 [.int .i64 D] (by rfl) rfl (new_one w1 3 _) (fun u hu => by rw [List.mem_singleton.1 hu]; rfl) (by omega) (by decide) (by simp) ?_; intro v2 w2 h2 hf2 hk2; obtain ⟨b2, c2, rfl⟩ := own_some h2; have hp2 := (hp1.alloc (Obj.cells #[.int .i64 D] 3)).fr hf2 (by simp [Value.ownBlock]); have q3 := hp2.cell 3; have q3f := hp2.frozen 3)
  | (go_simp; go_at_call 117; refine HT.out.mono ?_; rintro e w1 ⟨v1, rfl, hb1, ht1, hf1, hk1⟩; have hp1 := hpd.fr hf1 hne.out; have p31 := hp1.cell 3; have p32 := (hp1.alloc (Obj.cells #[.int .i64 D] 3)).cell 3))
 all_goals go_wp2_with fail
 all_goals refine bodyPost_end (v := .tuple #[]) (by simp [results, go_sem]) rfl ?_
 all_goals exact downZ_done hDD.out hb1 ht1 hf1 hk1 hp1 h2 hf2
theorem fold_wf : ∀ (l : List Int) (n : Int), Wf64 n → Wf64 (l.foldl step64 n)
 | [], n, h => h
 | x :: l, n, h => fold_wf l _ (by unfold step64 Wf64 bits IntKind.wrap; simp [IntKind.bits, IntKind.signed]; omega)
theorem numX_wf (bs : List Int) (pos : Nat) : Wf64 (numX bs pos) := fold_wf _ _ ⟨by omega, by omega⟩
def PR (w : World) (g : Nat) (A : Option Addr) (bs : List Int) (st : Option (List Int)) : Prop :=
 match st with
 | some s => ∃ pos, ReaderAt w g A bs pos none ∧ bs.drop pos = s
 | none => ∃ pos er, ReaderAt w g A bs pos (some er)
theorem PR.fr {S : Nat → Prop} {w w' : World} {g : Nat} {A : Option Addr} {bs : List Int} {st : Option (List Int)} (h : PR w g A bs st) (hf : Fr S w w') (hg : ¬ S g) (hv : ∀ k o, A = some ⟨k, o, none⟩ → ¬ S k) : PR w' g A bs st := by
 cases st with
 | some s => obtain ⟨pos, h1, h2⟩ := h; exact ⟨pos, h1.fr hf hg hv, h2⟩
 | none => obtain ⟨pos, er, h1⟩ := h; exact ⟨pos, er, h1.fr hf hg hv⟩
theorem PR.keep {w w' : World} {g : Nat} {A : Option Addr} {bs : List Int} {st : Option (List Int)} (h : PR w g A bs st) (hf : Fr (fun _ => False) w w') : PR w' g A bs st := h.fr hf id (fun _ _ _ => id)
theorem PR.blk {w : World} {g : Nat} {A : Option Addr} {bs : List Int} {st : Option (List Int)} (h : PR w g A bs st) : ∃ cs, Blk w g 223 cs := by
 cases st with
 | some s => obtain ⟨pos, h1, h2⟩ := h; obtain ⟨_, _, _, _, hb⟩ := h1.blk; exact ⟨_, hb⟩
 | none => obtain ⟨pos, er, h1⟩ := h; obtain ⟨_, _, _, _, hb⟩ := h1.blk; exact ⟨_, hb⟩
def NumStep (ok : Int → Prop) (st : Option (List Int)) (x : Int) (st' : Option (List Int)) : Prop :=
 match st with
 | none => st' = none ∧ x = 0
 | some s => (∃ t, s = num8 x ++ t ∧ ok x ∧ st' = some t) ∨ (st' = none ∧ x = 0 ∧ ∀ y t, ok y → s ≠ num8 y ++ t)
def TextStep (st : Option (List Int)) (xs : List Int) (st' : Option (List Int)) : Prop :=
 match st with
 | none => st' = none ∧ xs = []
 | some s => (∃ t, s = textB xs ++ t ∧ xs.length ≤ 65536 ∧ st' = some t) ∨ (st' = none ∧ xs = [] ∧ ∀ ys t, ys.length ≤ 65536 → s ≠ textB ys ++ t)
def PNum (w : World) (g : Nat) (A : Option Addr) (bs : List Int) (ok : Int → Prop) (st : Option (List Int)) (e : Ending) (w' : World) : Prop :=
 ∃ x st', e = .returned (.int .i64 x) ∧ PR w' g A bs st' ∧ NumStep ok st x st' ∧ Fr (fun k => k = g) w w'
def PText (w : World) (g : Nat) (A : Option Addr) (bs : List Int) (st : Option (List Int)) (e : Ending) (w' : World) : Prop :=
 ∃ B cap xs st', e = .returned (.slice B xs.length cap) ∧ ByteRow w' (inA A) B xs ∧ Bytes8 xs ∧ PR w' g A bs st' ∧ TextStep st xs st' ∧ Fr (fun k => k = g) w w'
theorem pr_Num {w : World} {g : Nat} {A : Option Addr} {bs : List Int} {st : Option (List Int)} (h : PR w g A bs st) (hl : bs.length ≤ 1099511627776) (h8 : Bytes8 bs) :
  Calls Tryz.prog 103 #[.pointer (some ⟨g, 0, none⟩)] w (PNum w g A bs Wf64 st) := by
 cases st with
 | none =>
  obtain ⟨pos, er, h1⟩ := h
  refine (reader_Num h1 hl h8).mono ?_
  rintro e w' ⟨he, h2, hf⟩
  exact ⟨0, none, he, ⟨pos, er, h2⟩, ⟨rfl, rfl⟩, hf.mono (fun _ _ h => h.elim)⟩
 | some s =>
  obtain ⟨pos, h1, hd⟩ := h
  refine (reader_Num h1 hl h8).mono ?_
  rintro e w' (⟨hc, v, he, rfl, h2, hf⟩ | ⟨hc, he, ⟨p, h2⟩, hf⟩)
  ·have hk := num_kept h8 hc
   rw [hd] at hk
   exact ⟨numX bs pos, some (bs.drop (pos + 8)), he, ⟨_, h2, rfl⟩, .inl ⟨_, hk, numX_wf _ _, rfl⟩, hf⟩
  ·refine ⟨0, none, he, ⟨p, _, h2⟩, .inr ⟨rfl, rfl, fun y t hy e => ?_⟩, hf⟩
   exact hc (num_read (hd.trans e) hy.1 hy.2).1
theorem pr_Int {w : World} {g : Nat} {A : Option Addr} {bs : List Int} {st : Option (List Int)} (h : PR w g A bs st) (hl : bs.length ≤ 1099511627776) (h8 : Bytes8 bs) (most : Int) (hm : most ≤ 9223372036854775807) :
  Calls Tryz.prog 135 #[.pointer (some ⟨g, 0, none⟩), .int .i64 most] w (PNum w g A bs (fun x => 0 ≤ x ∧ x ≤ most) st) := by
 cases st with
 | none =>
  obtain ⟨pos, er, h1⟩ := h
  refine (reader_Int h1 hl most).mono ?_
  rintro e w' ⟨he, h2, hf⟩
  exact ⟨0, none, he, ⟨pos, er, h2⟩, ⟨rfl, rfl⟩, hf.mono (fun _ _ h => h.elim)⟩
 | some s =>
  obtain ⟨pos, h1, hd⟩ := h
  refine (reader_Int h1 hl most).mono ?_
  rintro e w' (⟨hc, v, he, rfl, h2, hf⟩ | ⟨hc, he, ⟨p, h2⟩, hf⟩)
  ·have hn : numC bs pos = 0 ∧ 0 ≤ numX bs pos ∧ numX bs pos ≤ most := by
    unfold intC at hc
    split at hc
    ·rename_i h1; exact absurd hc h1
    ·rename_i h1
     split at hc
     ·cases hc
     ·split at hc
      ·cases hc
      ·exact ⟨by simpa using h1, by omega, by omega⟩
   have hk := num_kept h8 hn.1
   rw [hd] at hk
   exact ⟨numX bs pos, some (bs.drop (pos + 8)), he, ⟨_, h2, rfl⟩, .inl ⟨_, hk, hn.2, rfl⟩, hf⟩
  ·refine ⟨0, none, he, ⟨p, _, h2⟩, .inr ⟨rfl, rfl, fun y t hy e => ?_⟩, hf⟩
   obtain ⟨h3, h4, _⟩ := num_read (hd.trans e) (by omega) (by omega)
   refine hc ?_
   unfold intC
   rw [if_neg (by simp [h3]), h4, if_neg (by omega), if_neg (by omega)]
theorem pr_Text {w : World} {g : Nat} {A : Option Addr} {bs : List Int} {st : Option (List Int)} (h : PR w g A bs st) (hl : bs.length ≤ 1099511627776) (h8 : Bytes8 bs) :
  Calls Tryz.prog 106 #[.pointer (some ⟨g, 0, none⟩)] w (PText w g A bs st) := by
 cases st with
 | none =>
  obtain ⟨pos, er, h1⟩ := h
  refine (reader_Text h1 hl h8).mono ?_
  rintro e w' ⟨he, h2, hf⟩
  exact ⟨none, 0, [], none, he, fun k x h => by simp at h, fun y h => by simp at h, ⟨pos, er, h2⟩, ⟨rfl, rfl⟩, hf.mono (fun _ _ h => h.elim)⟩
 | some s =>
  obtain ⟨pos, h1, hd⟩ := h
  refine (reader_Text h1 hl h8).mono ?_
  rintro e w' (⟨hc, v, he, ⟨B, cap, rfl, hrow⟩, h2, hf⟩ | ⟨hc, he, ⟨p, h2⟩, hf⟩)
  ·obtain ⟨hk, _, hk3⟩ := text_kept h8 hc
   rw [hd] at hk
   refine ⟨B, cap, textX bs pos, some _, he, hrow, ?_, ⟨_, h2, rfl⟩, .inl ⟨_, hk, hk3, rfl⟩, hf⟩
   intro y hy
   unfold textX at hy
   exact h8 y (List.mem_of_mem_drop (List.mem_of_mem_take hy))
  ·refine ⟨none, 0, [], none, he, fun k x h => by simp at h, fun y h => by simp at h, ⟨p, _, h2⟩, .inr ⟨rfl, rfl, fun ys t hy e => ?_⟩, hf⟩
   exact hc (text_read (hd.trans e) hy).1
theorem pr_End {w : World} {g : Nat} {A : Option Addr} {bs : List Int} {st : Option (List Int)} (h : PR w g A bs st) (hl : bs.length ≤ 1099511627776) :
  Calls Tryz.prog 110 #[.pointer (some ⟨g, 0, none⟩)] w (fun e w' => ∃ err, e = .returned (errO err) ∧ (err = none ↔ st = some []) ∧ Fr (fun _ => False) w w') := by
 cases st with
 | none =>
  obtain ⟨pos, er, h1⟩ := h
  refine (reader_End h1 hl).mono ?_
  rintro e w' ⟨he, hf⟩
  exact ⟨_, he, by simp [endE], hf⟩
 | some s =>
  obtain ⟨pos, h1, hd⟩ := h
  refine (reader_End h1 hl).mono ?_
  rintro e w' ⟨he, hf⟩
  have hle := h1.le
  have hlen : bs.length - pos = s.length := by rw [← hd, List.length_drop]
  refine ⟨_, he, ?_, hf⟩
  unfold endE
  dsimp only
  cases s with
  | nil => simp at hlen; simp; omega
  | cons a b => simp at hlen; simp; omega
theorem pr_New {w : World} {F : Nat → Prop} {A : Option Addr} {bs : List Int} {cap : Nat} (hr : ByteRow w F A bs) (hl : bs.length ≤ 1099511627776) :
  Calls Tryz.prog 102 #[.slice A bs.length cap] w (fun e w' => ∃ g A', e = .returned (.pointer (some ⟨g, 0, none⟩)) ∧ PR w' g A' bs (some bs) ∧ w.heap.size ≤ g ∧ (∀ k o, A' = some ⟨k, o, none⟩ → w.heap.size ≤ k) ∧ Fr (fun _ => False) w w') := by
 refine (wire_New hr hl).mono ?_
 rintro e w' ⟨g, A', he, h1, h2, h3, hf⟩
 exact ⟨g, A', he, ⟨0, h1, rfl⟩, h2, h3, hf⟩
def ReadStep (st : Option (List Int)) (x : ByteArray × Int) (st' : Option (List Int)) : Prop := ∃ st1, TextStep st (bytesOf x.1) st1 ∧ NumStep Wf64 st1 x.2 st'
theorem txn_1_one {w : World} {g b : Nat} {A : Option Addr} {bs : List Int} {st : Option (List Int)} (h : PR w g A bs st) (hl : bs.length ≤ 1099511627776) (h8 : Bytes8 bs) (hb : w.cell? ⟨b, 0, none⟩ = some (.pointer (some ⟨g, 0, none⟩))) (hbg : b ≠ g) (hA : ∀ k o, A = some ⟨k, o, none⟩ → k < w.heap.size ∧ k ≠ g) :
  Calls Tryz.prog 105 #[.pointer (some ⟨b, 0, none⟩)] w (fun e w' => ∃ x st', e = .returned (.agg #[.string x.1, .int .i64 x.2]) ∧ PR w' g A bs st' ∧ ReadStep st x st' ∧ Fr (fun k => k = g) w w') := by
 have hf0 : Fr (fun _ => False) w (w.alloc (Obj.cells #[.string ⟨#[]⟩, .int .i64 0] 143)) := (Fr.refl _ _).alloc _
 have hX0 := Blk.new w 143 #[.string ⟨#[]⟩, .int .i64 0]
 have h0 := h.keep hf0
 have hb0 := hf0.cell_some hb id
 have hgl : g < w.heap.size := by obtain ⟨cs, hB⟩ := h.blk; exact hB.lt
 have hbl := block_lt_of_cell hb
 have H := Lib.hid (pr_Text h0 hl h8)
 have HA := Lib.hid hA
 clear h hb h0 hA
 go_enter Tryz.func105, Tryz.ntmps105
 go_upto_region 1 with fail
 generalize w.alloc (Obj.cells #[.string ⟨#[]⟩, .int .i64 0] 143) = w0 at *
 go_upto_region 2 with (go_at_call 106; refine H.out.mono ?_; rintro e w1 ⟨B1, c1, x1, st1, rfl, hr1, b81, h1, s1, hf1⟩; have hcv := conv_bytes (w := w1) (n := x1.length) (cap := c1) hr1 rfl)
 have hX1 := hX0.fr hf1 (fun e => by omega)
 have hf01 : Fr (fun k => k = g) w w1 := (hf0.mono (fun _ _ h => h.elim)).trans hf1 (fun _ _ h => h)
 have hfa := (Fr.refl (fun _ => False) w1).alloc (Obj.cells #[.string (strOfNums x1), .int .i64 0] 143)
 have hX2 := hX1.fr hfa id
 have hY2 := Blk.new w1 143 #[.string (strOfNums x1), .int .i64 0]
 have h2 := h1.keep hfa
 have hb2 : (w1.alloc (Obj.cells #[.string (strOfNums x1), .int .i64 0] 143)).cell? ⟨b, 0, none⟩ = some (.pointer (some ⟨g, 0, none⟩)) := hfa.cell_some (hf1.cell_some hb0 hbg) id
 have hf02 := hf01.then_ hfa
 have e1 : bytesOf (strOfNums x1) = x1 := bytesOf_strOf (fun y hy => by have := b81 y hy; omega)
 have hw1 : w.heap.size < w1.heap.size := hX1.lt
 obtain ⟨gy, hgy⟩ : ∃ q, Hid (w1.heap.size = q) := ⟨_, rfl⟩
 rw [hgy.out] at hY2 hw1 ⊢
 generalize w1.alloc (Obj.cells #[.string (strOfNums x1), .int .i64 0] 143) = w2 at *
 clear H hX0 hX1 h1 hf1 hfa hb0 hcv hr1 b81 hf0 hf01
 have H := Lib.hid (pr_Num h2 hl h8)
 go_upto_region 3 with (go_at_call 103; refine H.out.mono ?_; rintro e w3 ⟨x2, st2, rfl, h3, s2, hf3⟩; have hY3 := hY2.fr hf3 (fun e => by omega); have y := hY3.cell 1; have z := hY3.frozen 1)
 have hX3 := hX2.fr hf3 (fun e => by omega)
 have hf03 := hf02.trans hf3 (fun _ _ h => h)
 have hS : Fr (fun k => k = gy) w3 (w3.setCell ⟨gy, 1, none⟩ (.int .i64 x2)) := (Fr.refl (fun k => k = gy) w3).setCell (p := ⟨gy, 1, none⟩) (fun _ => rfl) _
 have h4 := h3.fr hS (fun e => by omega) (fun k o e he => by have := (HA.out k o e).1; omega)
 have hY4 : Blk (w3.setCell ⟨gy, 1, none⟩ (.int .i64 x2)) gy 143 #[.string (strOfNums x1), .int .i64 x2] := hY3.set_ 1 _
 have hX4 := hX3.fr hS (fun e => by omega)
 have hf04 : Fr (fun k => k = g) w (w3.setCell ⟨gy, 1, none⟩ (.int .i64 x2)) := hf03.setCell (p := ⟨gy, 1, none⟩) (fun h => absurd h (by dsimp only; omega)) _
 generalize w3.setCell ⟨gy, 1, none⟩ (.int .i64 x2) = w4 at *
 clear H hX2 hX3 hY2 hY3 h2 h3 hf02 hf03 hf3 hb2 y z hS
 go_wp2_with (first
  | (refine wpList_load_row rfl 143 _ rfl _ rfl _ _ (0, 0) _ hY4 Tryz.underlying143 rfl (by kernel_rfl) ?_)
  | (refine wpList_store_row rfl 143 (.tmp 1) (.tmp 10) rfl w.heap.size #[.string (strOfNums x1), .int .i64 x2] rfl rfl 143 _ hX4 (by kernel_rfl) rfl (by simp [Value.oneCell']) ?_))
 have hX5 := Blk.setRow_ (ds := #[.string (strOfNums x1), .int .i64 x2]) hX4
 have hS := Fr.setRow_ (w := w4) (g := w.heap.size) (ds := #[.string (strOfNums x1), .int .i64 x2])
 have h5 := h4.fr hS (fun e => by omega) (fun k o e he => by have := (HA.out k o e).1; omega)
 have hf5 := hf04.trans hS (fun k hk e => by omega)
 generalize w4.setRow w.heap.size #[.string (strOfNums x1), .int .i64 x2] = w5 at *
 refine bodyPost_ret (v := .agg #[.string (strOfNums x1), .int .i64 x2]) (results_cell_row Tryz.results105 _ w5 w.heap.size 143 #[.string (strOfNums x1), .int .i64 x2] (0, 0) _ rfl hX5 Tryz.underlying143 rfl (by kernel_rfl)) rfl ?_
 exact ⟨(strOfNums x1, x2), st2, rfl, h5, ⟨st1, by rw [show bytesOf (strOfNums x1) = x1 from e1]; exact s1, s2⟩, hf5⟩
def WriteStep (st : Option (List Int)) (x : ByteArray × ByteArray) (st' : Option (List Int)) : Prop := ∃ st1, TextStep st (bytesOf x.1) st1 ∧ TextStep st1 (bytesOf x.2) st'
theorem txn_2_one {w : World} {g b : Nat} {A : Option Addr} {bs : List Int} {st : Option (List Int)} (h : PR w g A bs st) (hl : bs.length ≤ 1099511627776) (h8 : Bytes8 bs) (hb : w.cell? ⟨b, 0, none⟩ = some (.pointer (some ⟨g, 0, none⟩))) (hbg : b ≠ g) (hA : ∀ k o, A = some ⟨k, o, none⟩ → k < w.heap.size ∧ k ≠ g) :
  Calls Tryz.prog 108 #[.pointer (some ⟨b, 0, none⟩)] w (fun e w' => ∃ x st', e = .returned (.agg #[.string x.1, .string x.2]) ∧ PR w' g A bs st' ∧ WriteStep st x st' ∧ Fr (fun k => k = g) w w') := by
 have hf0 : Fr (fun _ => False) w (w.alloc (Obj.cells #[.string ⟨#[]⟩, .string ⟨#[]⟩] 84)) := (Fr.refl _ _).alloc _
 have hX0 := Blk.new w 84 #[.string ⟨#[]⟩, .string ⟨#[]⟩]
 have h0 := h.keep hf0
 have hb0 := hf0.cell_some hb id
 have hgl : g < w.heap.size := by obtain ⟨cs, hB⟩ := h.blk; exact hB.lt
 have hbl := block_lt_of_cell hb
 have H := Lib.hid (pr_Text h0 hl h8)
 have HA := Lib.hid hA
 clear h hb h0 hA
 go_enter Tryz.func108, Tryz.ntmps108
 go_upto_region 1 with fail
 generalize w.alloc (Obj.cells #[.string ⟨#[]⟩, .string ⟨#[]⟩] 84) = w0 at *
 go_upto_region 2 with (go_at_call 106; refine H.out.mono ?_; rintro e w1 ⟨B1, c1, x1, st1, rfl, hr1, b81, h1, s1, hf1⟩; have hcv := conv_bytes (w := w1) (n := x1.length) (cap := c1) hr1 rfl)
 have hX1 := hX0.fr hf1 (fun e => by omega)
 have hf01 : Fr (fun k => k = g) w w1 := (hf0.mono (fun _ _ h => h.elim)).trans hf1 (fun _ _ h => h)
 have hfa := (Fr.refl (fun _ => False) w1).alloc (Obj.cells #[.string (strOfNums x1), .string ⟨#[]⟩] 84)
 have hX2 := hX1.fr hfa id
 have hY2 := Blk.new w1 84 #[.string (strOfNums x1), .string ⟨#[]⟩]
 have h2 := h1.keep hfa
 have hb2 : (w1.alloc (Obj.cells #[.string (strOfNums x1), .string ⟨#[]⟩] 84)).cell? ⟨b, 0, none⟩ = some (.pointer (some ⟨g, 0, none⟩)) := hfa.cell_some (hf1.cell_some hb0 hbg) id
 have hf02 := hf01.then_ hfa
 have e1 : bytesOf (strOfNums x1) = x1 := bytesOf_strOf (fun y hy => by have := b81 y hy; omega)
 have hw1 : w.heap.size < w1.heap.size := hX1.lt
 obtain ⟨gy, hgy⟩ : ∃ q, Hid (w1.heap.size = q) := ⟨_, rfl⟩
 rw [hgy.out] at hY2 hw1 ⊢
 generalize w1.alloc (Obj.cells #[.string (strOfNums x1), .string ⟨#[]⟩] 84) = w2 at *
 clear H hX0 hX1 h1 hf1 hfa hb0 hcv hr1 b81 hf0 hf01
 have H := Lib.hid (pr_Text h2 hl h8)
 go_upto_region 3 with (go_at_call 106; refine H.out.mono ?_; rintro e w3 ⟨B2, c2, x2, st2, rfl, hr2, b82, h3, s2, hf3⟩; have hcv := conv_bytes (w := w3) (n := x2.length) (cap := c2) hr2 rfl; have hY3 := hY2.fr hf3 (fun e => by omega); have y := hY3.cell 1; have z := hY3.frozen 1)
 have e2 : bytesOf (strOfNums x2) = x2 := bytesOf_strOf (fun y hy => by have := b82 y hy; omega)
 have hX3 := hX2.fr hf3 (fun e => by omega)
 have hf03 := hf02.trans hf3 (fun _ _ h => h)
 have hS : Fr (fun k => k = gy) w3 (w3.setCell ⟨gy, 1, none⟩ (.string (strOfNums x2))) := (Fr.refl (fun k => k = gy) w3).setCell (p := ⟨gy, 1, none⟩) (fun _ => rfl) _
 have h4 := h3.fr hS (fun e => by omega) (fun k o e he => by have := (HA.out k o e).1; omega)
 have hY4 : Blk (w3.setCell ⟨gy, 1, none⟩ (.string (strOfNums x2))) gy 84 #[.string (strOfNums x1), .string (strOfNums x2)] := hY3.set_ 1 _
 have hX4 := hX3.fr hS (fun e => by omega)
 have hf04 : Fr (fun k => k = g) w (w3.setCell ⟨gy, 1, none⟩ (.string (strOfNums x2))) := hf03.setCell (p := ⟨gy, 1, none⟩) (fun h => absurd h (by dsimp only; omega)) _
 generalize w3.setCell ⟨gy, 1, none⟩ (.string (strOfNums x2)) = w4 at *
 clear H hX2 hX3 hY2 hY3 h2 h3 hf02 hf03 hf3 hb2 y z hS
 go_wp2_with (first
  | (refine wpList_load_row rfl 84 _ rfl _ rfl _ _ (0, 0) _ hY4 Tryz.underlying84 rfl (by kernel_rfl) ?_)
  | (refine wpList_store_row rfl 84 (.tmp 1) (.tmp 11) rfl w.heap.size #[.string (strOfNums x1), .string (strOfNums x2)] rfl rfl 84 _ hX4 (by kernel_rfl) rfl (by simp [Value.oneCell']) ?_))
 have hX5 := Blk.setRow_ (ds := #[.string (strOfNums x1), .string (strOfNums x2)]) hX4
 have hS := Fr.setRow_ (w := w4) (g := w.heap.size) (ds := #[.string (strOfNums x1), .string (strOfNums x2)])
 have h5 := h4.fr hS (fun e => by omega) (fun k o e he => by have := (HA.out k o e).1; omega)
 have hf5 := hf04.trans hS (fun k hk e => by omega)
 generalize w4.setRow w.heap.size #[.string (strOfNums x1), .string (strOfNums x2)] = w5 at *
 refine bodyPost_ret (v := .agg #[.string (strOfNums x1), .string (strOfNums x2)]) (results_cell_row Tryz.results108 _ w5 w.heap.size 84 #[.string (strOfNums x1), .string (strOfNums x2)] (0, 0) _ rfl hX5 Tryz.underlying84 rfl (by kernel_rfl)) rfl ?_
 exact ⟨(strOfNums x1, strOfNums x2), st2, rfl, h5, ⟨st1, by rw [show bytesOf (strOfNums x1) = x1 from e1]; exact s1, by rw [show bytesOf (strOfNums x2) = x2 from e2]; exact s2⟩, hf5⟩
def ReadsStep : Option (List Int) → List (ByteArray × Int) → Option (List Int) → Prop
 | st, [], st' => st' = st
 | st, x :: R, st' => ∃ st1, ReadStep st x st1 ∧ ReadsStep st1 R st'
theorem ReadsStep.snoc : ∀ {R : List (ByteArray × Int)} {st st1 st2 : Option (List Int)} {x : ByteArray × Int}, ReadsStep st R st1 → ReadStep st1 x st2 → ReadsStep st (R ++ [x]) st2
 | [], _, _, _, _, h, h2 => by cases (show _ = _ from h); exact ⟨_, h2, rfl⟩
 | y :: R, _, _, _, _, h, h2 => by obtain ⟨s1, h3, h4⟩ := h; exact ⟨s1, h3, h4.snoc h2⟩
def ReadsOut (w : World) (g : Nat) (A : Option Addr) (bs : List Int) (st : Option (List Int)) (e : Ending) (w' : World) : Prop := ∃ v R st1 st', e = .returned v ∧ w'.ownsRow w.heap.size 143 2 v R.length (readsV R) ∧ R.length ≤ 8 ∧ PR w' g A bs st' ∧ NumStep (fun x => 0 ≤ x ∧ x ≤ 8) st (R.length : Int) st1 ∧ ReadsStep st1 R st' ∧ Fr (fun k => k = g) w w'
theorem txn_some_Read {w : World} {g b : Nat} {A : Option Addr} {bs : List Int} {st : Option (List Int)} (h : PR w g A bs st) (hl : bs.length ≤ 1099511627776) (h8 : Bytes8 bs) (hb : w.cell? ⟨b, 0, none⟩ = some (.pointer (some ⟨g, 0, none⟩))) (hbg : b ≠ g) (hA : ∀ k o, A = some ⟨k, o, none⟩ → k < w.heap.size ∧ k ≠ g) :
  Calls Tryz.prog 104 #[.pointer (some ⟨g, 0, none⟩), .func (.func 105) #[] #[.pointer (some ⟨b, 0, none⟩)]] w (ReadsOut w g A bs st) := by
 have H := Lib.hid (pr_Int h hl h8 8 (by omega))
 have HA := Lib.hid hA
 have hgl : g < w.heap.size := by obtain ⟨cs, hB⟩ := h.blk; exact hB.lt
 have hbl := block_lt_of_cell hb
 have hinf := read_info
 clear h hA
 go_enter Tryz.func104, Tryz.ntmps104
 go_upto_region 3 with (go_at_call 135; refine H.out.mono ?_; rintro e w1 ⟨n, st1, rfl, h1, s1, hf1⟩)
 have hn : 0 ≤ n ∧ n ≤ 8 := by
  cases st with
  | none => obtain ⟨_, rfl⟩ := s1; omega
  | some s => rcases s1 with ⟨t, _, h, _⟩ | ⟨_, rfl, _⟩ <;> omega
 obtain ⟨m, rfl⟩ := Int.eq_ofNat_of_zero_le hn.1
 have hb1 := hf1.cell_some hb hbg
 have S1 := Lib.hid s1
 clear H s1
 go_loopw [5, 6] (fun lv i wr => ∃ (R : List (ByteArray × Int)) (st2 : Option (List Int)), R.length ≤ m ∧ i = .int .i64 ((m : Int) - (R.length : Int)) ∧ wr.ownsRow w1.heap.size 143 2 lv R.length (readsV R) ∧ PR wr g A bs st2 ∧ Hid (ReadsStep st1 R st2) ∧ Fr (fun k => k = g) w1 wr) (fun _ i _ => (intOf i).toNat)
 case atStart => exact ⟨[], st1, by simp, by simp, World.ownsRow_nil _ _ _ _, h1, rfl, Fr.refl _ _⟩
 case round =>
  clear h1
  obtain ⟨R, st2, hR, rfl, hown, h2, s2, hf⟩ := hrel
  by_cases hlt : R.length < m
  ·have q1 : (0 : Int) < (m : Int) - (R.length : Int) := by omega
   have q2 : wrap64 ((m : Int) - (R.length : Int) - 1) = (m : Int) - (R.length : Int) - 1 := by unfold wrap64; omega
   have q2 := Lib.hid q2
   have hbr := hf.cell_some hb1 hbg
   have hsz := hf.size
   have hsz1 := hf1.size
   have HO := Lib.hid (txn_1_one h2 hl h8 hbr hbg (fun k o e => ⟨by have := (HA.out k o e).1; omega, (HA.out k o e).2⟩))
   go_wp2_with (first
    | (go_at_call 105; refine HO.out.mono ?_; rintro e w3 ⟨x, st3, rfl, h3, s3, hf3⟩; have hown3 := own_fr hown hf3 (fun q hq e => by obtain ⟨ds, hD⟩ := h2.blk; exact own_ne_blk hown hD (by decide) (e ▸ hq)); have hz3 : w1.heap.size ≤ w3.heap.size := (hf.trans hf3 (fun _ _ h => h)).size)
    | (at_builtin; refine wpList_append_el _ rfl _ _ 26 rfl w1.heap.size 143 _ 2 24 Tryz.underlying26 hinf rfl (by decide) _ R.length (readsV R) rfl (own_fr hown3 ((Fr.refl (fun _ => False) w3).alloc _) (fun _ _ => id)) w3.heap.size [.string x.1, .int .i64 x.2] rfl rfl (cell_two w3 _ _ _) (by simp [Value.oneCell']) (by omega) (by decide) (by simp; omega) ?_; intro g' c' w4 hown4 hf4))
   have hfa := (Fr.refl (fun _ => False) w3).alloc (Obj.cells #[.string x.1, .int .i64 x.2] 143)
   have ho3a := own_fr hown3 hfa (fun _ _ => id)
   have h4 : PR w4 g A bs st3 := by
    obtain ⟨ds, hD⟩ := (h3.keep hfa).blk
    exact (h3.keep hfa).fr hf4 (own_ne_blk ho3a hD (by decide)) (fun k o e he => by have := own_ge ho3a k he; have := (HA.out k o e).1; omega)
   have hf14 : Fr (fun k => k = g) w1 w4 := ((hf.trans hf3 (fun _ _ h => h)).then_ hfa).trans hf4 (fun q hq e => by have := own_ge ho3a q e; omega)
   go_roundw
   case rel =>
    refine ⟨R ++ [x], st3, by simp; omega, by simp; omega, ?_, h4, s2.out.snoc s3, hf14⟩
    rw [show readsV (R ++ [x]) = readsV R ++ [.string x.1, .int .i64 x.2] by simp [readsV]]
    simpa using hown4
   case measure => simp [intOf]; omega
  ·have q1 : ¬ (0 : Int) < (m : Int) - (R.length : Int) := by omega
   have hm : R.length = m := by omega
   go_wp2
   go_ret
   refine ⟨_, R, st1, st2, rfl, own_base hown hf1.size, by omega, h2, ?_, s2.out, hf1.trans hf (fun _ _ h => h)⟩
   rw [hm]
   exact S1.out
def WritesStep : Option (List Int) → List (ByteArray × ByteArray) → Option (List Int) → Prop
 | st, [], st' => st' = st
 | st, x :: R, st' => ∃ st1, WriteStep st x st1 ∧ WritesStep st1 R st'
theorem WritesStep.snoc : ∀ {R : List (ByteArray × ByteArray)} {st st1 st2 : Option (List Int)} {x : ByteArray × ByteArray}, WritesStep st R st1 → WriteStep st1 x st2 → WritesStep st (R ++ [x]) st2
 | [], _, _, _, _, h, h2 => by cases (show _ = _ from h); exact ⟨_, h2, rfl⟩
 | y :: R, _, _, _, _, h, h2 => by obtain ⟨s1, h3, h4⟩ := h; exact ⟨s1, h3, h4.snoc h2⟩
def WritesOut (w : World) (g : Nat) (A : Option Addr) (bs : List Int) (st : Option (List Int)) (e : Ending) (w' : World) : Prop := ∃ v R st1 st', e = .returned v ∧ w'.ownsRow w.heap.size 84 2 v R.length (writesV R) ∧ R.length ≤ 8 ∧ PR w' g A bs st' ∧ NumStep (fun x => 0 ≤ x ∧ x ≤ 8) st (R.length : Int) st1 ∧ WritesStep st1 R st' ∧ Fr (fun k => k = g) w w'
theorem txn_some_Write {w : World} {g b : Nat} {A : Option Addr} {bs : List Int} {st : Option (List Int)} (h : PR w g A bs st) (hl : bs.length ≤ 1099511627776) (h8 : Bytes8 bs) (hb : w.cell? ⟨b, 0, none⟩ = some (.pointer (some ⟨g, 0, none⟩))) (hbg : b ≠ g) (hA : ∀ k o, A = some ⟨k, o, none⟩ → k < w.heap.size ∧ k ≠ g) :
  Calls Tryz.prog 107 #[.pointer (some ⟨g, 0, none⟩), .func (.func 108) #[] #[.pointer (some ⟨b, 0, none⟩)]] w (WritesOut w g A bs st) := by
 have H := Lib.hid (pr_Int h hl h8 8 (by omega))
 have HA := Lib.hid hA
 have hgl : g < w.heap.size := by obtain ⟨cs, hB⟩ := h.blk; exact hB.lt
 have hbl := block_lt_of_cell hb
 have hinf := write_info
 clear h hA
 go_enter Tryz.func107, Tryz.ntmps107
 go_upto_region 3 with (go_at_call 135; refine H.out.mono ?_; rintro e w1 ⟨n, st1, rfl, h1, s1, hf1⟩)
 have hn : 0 ≤ n ∧ n ≤ 8 := by
  cases st with
  | none => obtain ⟨_, rfl⟩ := s1; omega
  | some s => rcases s1 with ⟨t, _, h, _⟩ | ⟨_, rfl, _⟩ <;> omega
 obtain ⟨m, rfl⟩ := Int.eq_ofNat_of_zero_le hn.1
 have hb1 := hf1.cell_some hb hbg
 have S1 := Lib.hid s1
 clear H s1
 go_loopw [5, 6] (fun lv i wr => ∃ (R : List (ByteArray × ByteArray)) (st2 : Option (List Int)), R.length ≤ m ∧ i = .int .i64 ((m : Int) - (R.length : Int)) ∧ wr.ownsRow w1.heap.size 84 2 lv R.length (writesV R) ∧ PR wr g A bs st2 ∧ Hid (WritesStep st1 R st2) ∧ Fr (fun k => k = g) w1 wr) (fun _ i _ => (intOf i).toNat)
 case atStart => exact ⟨[], st1, by simp, by simp, World.ownsRow_nil _ _ _ _, h1, rfl, Fr.refl _ _⟩
 case round =>
  clear h1
  obtain ⟨R, st2, hR, rfl, hown, h2, s2, hf⟩ := hrel
  by_cases hlt : R.length < m
  ·have q1 : (0 : Int) < (m : Int) - (R.length : Int) := by omega
   have q2 : wrap64 ((m : Int) - (R.length : Int) - 1) = (m : Int) - (R.length : Int) - 1 := by unfold wrap64; omega
   have q2 := Lib.hid q2
   have hbr := hf.cell_some hb1 hbg
   have hsz := hf.size
   have hsz1 := hf1.size
   have HO := Lib.hid (txn_2_one h2 hl h8 hbr hbg (fun k o e => ⟨by have := (HA.out k o e).1; omega, (HA.out k o e).2⟩))
   go_wp2_with (first
    | (go_at_call 108; refine HO.out.mono ?_; rintro e w3 ⟨x, st3, rfl, h3, s3, hf3⟩; have hown3 := own_fr hown hf3 (fun q hq e => by obtain ⟨ds, hD⟩ := h2.blk; exact own_ne_blk hown hD (by decide) (e ▸ hq)); have hz3 : w1.heap.size ≤ w3.heap.size := (hf.trans hf3 (fun _ _ h => h)).size)
    | (at_builtin; refine wpList_append_el _ rfl _ _ 27 rfl w1.heap.size 84 _ 2 32 Tryz.underlying27 hinf rfl (by decide) _ R.length (writesV R) rfl (own_fr hown3 ((Fr.refl (fun _ => False) w3).alloc _) (fun _ _ => id)) w3.heap.size [.string x.1, .string x.2] rfl rfl (cell_two w3 _ _ _) (by simp [Value.oneCell']) (by omega) (by decide) (by simp; omega) ?_; intro g' c' w4 hown4 hf4))
   have hfa := (Fr.refl (fun _ => False) w3).alloc (Obj.cells #[.string x.1, .string x.2] 84)
   have ho3a := own_fr hown3 hfa (fun _ _ => id)
   have h4 : PR w4 g A bs st3 := by
    obtain ⟨ds, hD⟩ := (h3.keep hfa).blk
    exact (h3.keep hfa).fr hf4 (own_ne_blk ho3a hD (by decide)) (fun k o e he => by have := own_ge ho3a k he; have := (HA.out k o e).1; omega)
   have hf14 : Fr (fun k => k = g) w1 w4 := ((hf.trans hf3 (fun _ _ h => h)).then_ hfa).trans hf4 (fun q hq e => by have := own_ge ho3a q e; omega)
   go_roundw
   case rel =>
    refine ⟨R ++ [x], st3, by simp; omega, by simp; omega, ?_, h4, s2.out.snoc s3, hf14⟩
    rw [show writesV (R ++ [x]) = writesV R ++ [.string x.1, .string x.2] by simp [writesV]]
    simpa using hown4
   case measure => simp [intOf]; omega
  ·have q1 : ¬ (0 : Int) < (m : Int) - (R.length : Int) := by omega
   have hm : R.length = m := by omega
   go_wp2
   go_ret
   refine ⟨_, R, st1, st2, rfl, own_base hown hf1.size, by omega, h2, ?_, s2.out, hf1.trans hf (fun _ _ h => h)⟩
   rw [hm]
   exact S1.out
theorem num8_same {a b : Int} {s t : List Int} (h : num8 a ++ s = num8 b ++ t) (ha : Wf64 a) (hb : Wf64 b) : a = b ∧ s = t := by
 have h1 := num_read (bs := num8 a ++ s) (p := 0) (n := a) (t := s) rfl ha.1 ha.2
 have h2 := num_read (bs := num8 a ++ s) (p := 0) (n := b) (t := t) h hb.1 hb.2
 exact ⟨h1.2.1.symm.trans h2.2.1, h1.2.2.symm.trans h2.2.2⟩
theorem text_same {xs ys s t : List Int} (h : textB xs ++ s = textB ys ++ t) (hx : xs.length ≤ 65536) (hy : ys.length ≤ 65536) : xs = ys ∧ s = t := textB_inj h (by omega) (by omega)
theorem NumStep.keep {ok : Int → Prop} {st : Option (List Int)} {x : Int} {t : List Int} (h : NumStep ok st x (some t)) : st = some (num8 x ++ t) ∧ ok x := by
 cases st with
 | none => exact absurd h.1 (by simp)
 | some s =>
  rcases h with ⟨t', rfl, h1, h2⟩ | ⟨h1, _⟩
  ·cases h2; exact ⟨rfl, h1⟩
  ·cases h1
theorem TextStep.keep {st : Option (List Int)} {xs t : List Int} (h : TextStep st xs (some t)) : st = some (textB xs ++ t) ∧ xs.length ≤ 65536 := by
 cases st with
 | none => exact absurd h.1 (by simp)
 | some s =>
  rcases h with ⟨t', rfl, h1, h2⟩ | ⟨h1, _⟩
  ·cases h2; exact ⟨rfl, h1⟩
  ·cases h1
theorem NumStep.go {ok : Int → Prop} {x y : Int} {t : List Int} {st' : Option (List Int)} (h : NumStep ok (some (num8 y ++ t)) x st') (hy : ok y) (hw : ∀ z, ok z → Wf64 z) : x = y ∧ st' = some t := by
 rcases h with ⟨t', e, h1, rfl⟩ | ⟨_, _, h1⟩
 ·obtain ⟨e1, e2⟩ := num8_same e (hw y hy) (hw x h1)
  exact ⟨e1.symm, by rw [e2]⟩
 ·exact absurd rfl (h1 y t hy)
theorem TextStep.go {xs ys t : List Int} {st' : Option (List Int)} (h : TextStep (some (textB ys ++ t)) xs st') (hy : ys.length ≤ 65536) : xs = ys ∧ st' = some t := by
 rcases h with ⟨t', e, h1, rfl⟩ | ⟨_, _, h1⟩
 ·obtain ⟨e1, e2⟩ := text_same e hy h1
  exact ⟨e1.symm, by rw [e2]⟩
 ·exact absurd rfl (h1 ys t hy)
theorem ReadStep.keep {st : Option (List Int)} {x : ByteArray × Int} {t : List Int} (h : ReadStep st x (some t)) : st = some (readB x ++ t) := by
 obtain ⟨s1, h1, h2⟩ := h
 obtain ⟨rfl, _⟩ := h2.keep
 obtain ⟨rfl, _⟩ := h1.keep
 rw [readB, List.append_assoc]
theorem ReadsStep.keep : ∀ {R : List (ByteArray × Int)} {st : Option (List Int)} {t : List Int}, ReadsStep st R (some t) → st = some (R.flatMap readB ++ t)
 | [], st, t, h => by cases (show _ = _ from h); rfl
 | x :: R, st, t, h => by
  obtain ⟨s1, h1, h2⟩ := h
  cases ReadsStep.keep h2
  rw [h1.keep, List.flatMap_cons, List.append_assoc]
theorem WriteStep.keep {st : Option (List Int)} {x : ByteArray × ByteArray} {t : List Int} (h : WriteStep st x (some t)) : st = some (writeB x ++ t) := by
 obtain ⟨s1, h1, h2⟩ := h
 obtain ⟨rfl, _⟩ := h2.keep
 obtain ⟨rfl, _⟩ := h1.keep
 rw [writeB, List.append_assoc]
theorem WritesStep.keep : ∀ {R : List (ByteArray × ByteArray)} {st : Option (List Int)} {t : List Int}, WritesStep st R (some t) → st = some (R.flatMap writeB ++ t)
 | [], st, t, h => by cases (show _ = _ from h); rfl
 | x :: R, st, t, h => by
  obtain ⟨s1, h1, h2⟩ := h
  cases WritesStep.keep h2
  rw [h1.keep, List.flatMap_cons, List.append_assoc]
theorem ReadsStep.go : ∀ {R R0 : List (ByteArray × Int)} {t : List Int} {st' : Option (List Int)}, ReadsStep (some (R0.flatMap readB ++ t)) R st' → R.length = R0.length → (∀ x ∈ R0, x.1.size ≤ 65536 ∧ Wf64 x.2) → R = R0 ∧ st' = some t
 | [], [], t, st', h, _, _ => ⟨rfl, h⟩
 | x :: R, y :: R0, t, st', h, hl, hy => by
  obtain ⟨s2, ⟨s1, h1, h2⟩, h3⟩ := h
  rw [List.flatMap_cons, readB, List.append_assoc, List.append_assoc] at h1
  have hy0 := hy y (.head _)
  obtain ⟨e1, rfl⟩ := h1.go (by rw [bytesOf_length]; omega)
  obtain ⟨e2, rfl⟩ := h2.go hy0.2 (fun _ h => h)
  obtain ⟨rfl, e3⟩ := ReadsStep.go h3 (by simpa using hl) (fun z hz => hy z (.tail _ hz))
  exact ⟨by rw [show x = y from Prod.ext (bytesOf_inj e1) e2], e3⟩
theorem WritesStep.go : ∀ {R R0 : List (ByteArray × ByteArray)} {t : List Int} {st' : Option (List Int)}, WritesStep (some (R0.flatMap writeB ++ t)) R st' → R.length = R0.length → (∀ x ∈ R0, x.1.size ≤ 65536 ∧ x.2.size ≤ 65536) → R = R0 ∧ st' = some t
 | [], [], t, st', h, _, _ => ⟨rfl, h⟩
 | x :: R, y :: R0, t, st', h, hl, hy => by
  obtain ⟨s2, ⟨s1, h1, h2⟩, h3⟩ := h
  rw [List.flatMap_cons, writeB, List.append_assoc, List.append_assoc] at h1
  have hy0 := hy y (.head _)
  obtain ⟨e1, rfl⟩ := h1.go (by rw [bytesOf_length]; omega)
  obtain ⟨e2, rfl⟩ := h2.go (by rw [bytesOf_length]; omega)
  obtain ⟨rfl, e3⟩ := WritesStep.go h3 (by simpa using hl) (fun z hz => hy z (.tail _ hz))
  exact ⟨by rw [show x = y from Prod.ext (bytesOf_inj e1) (bytesOf_inj e2)], e3⟩
def TxnSteps (bs : List Int) (c n : Int) (R : List (ByteArray × Int)) (W : List (ByteArray × ByteArray)) (st : Option (List Int)) : Prop :=
 ∃ s1 s2 s3 s4 s5, NumStep Wf64 (some bs) c s1 ∧ NumStep Wf64 s1 n s2 ∧ NumStep (fun x => 0 ≤ x ∧ x ≤ 8) s2 (R.length : Int) s3 ∧ ReadsStep s3 R s4 ∧ NumStep (fun x => 0 ≤ x ∧ x ≤ 8) s4 (W.length : Int) s5 ∧ WritesStep s5 W st
theorem TxnSteps.keep {bs : List Int} {c n : Int} {R : List (ByteArray × Int)} {W : List (ByteArray × ByteArray)} (h : TxnSteps bs c n R W (some [])) : bs = txnB c n R W := by
 obtain ⟨s1, s2, s3, s4, s5, h1, h2, h3, h4, h5, h6⟩ := h
 cases h6.keep
 obtain ⟨rfl, _⟩ := h5.keep
 cases h4.keep
 obtain ⟨rfl, _⟩ := h3.keep
 obtain ⟨rfl, _⟩ := h2.keep
 obtain ⟨e, _⟩ := h1.keep
 cases e
 simp [txnB]
theorem TxnSteps.go {c n c0 n0 : Int} {R R0 : List (ByteArray × Int)} {W W0 : List (ByteArray × ByteArray)} {st : Option (List Int)} (h : TxnSteps (txnB c0 n0 R0 W0) c n R W st) (hok : TOk c0 n0 R0 W0) : st = some [] ∧ c = c0 ∧ n = n0 ∧ R = R0 ∧ W = W0 := by
 obtain ⟨a1, a2, a3, a4, _, a6, a7⟩ := hok
 have lR := rises_len a6
 have lW := rises_len a7
 have sR := read_sizes a6
 have vR := read_vers a6
 have sW := write_sizes a7
 obtain ⟨s1, s2, s3, s4, s5, h1, h2, h3, h4, h5, h6⟩ := h
 rw [show txnB c0 n0 R0 W0 = num8 c0 ++ (num8 n0 ++ (num8 (R0.length : Int) ++ (R0.flatMap readB ++ (num8 (W0.length : Int) ++ (W0.flatMap writeB ++ []))))) by simp [txnB]] at h1
 have hw : ∀ z : Int, 0 ≤ z ∧ z ≤ 8 → Wf64 z := fun z h => ⟨by omega, by omega⟩
 obtain ⟨rfl, rfl⟩ := h1.go ⟨by omega, by omega⟩ (fun _ h => h)
 obtain ⟨rfl, rfl⟩ := h2.go ⟨by omega, by omega⟩ (fun _ h => h)
 obtain ⟨e3, rfl⟩ := h3.go ⟨by omega, by omega⟩ hw
 obtain ⟨rfl, rfl⟩ := h4.go (by omega) (fun x hx => by have := sR x hx; have := vR x hx; exact ⟨by omega, by omega, by omega⟩)
 obtain ⟨e5, rfl⟩ := h5.go ⟨by omega, by omega⟩ hw
 obtain ⟨rfl, rfl⟩ := h6.go (by omega) (fun x hx => by have := sW x hx; omega)
 exact ⟨rfl, rfl, rfl, rfl, rfl⟩
theorem PR.ne {w : World} {g : Nat} {A : Option Addr} {bs : List Int} {st : Option (List Int)} (h : PR w g A bs st) : ∀ k o, A = some ⟨k, o, none⟩ → k < w.heap.size ∧ k ≠ g := by
 cases st with
 | some s => obtain ⟨pos, h1, h2⟩ := h; exact fun k o e => ⟨h1.alt k o e, h1.ne k o e⟩
 | none => obtain ⟨pos, er, h1⟩ := h; exact fun k o e => ⟨h1.alt k o e, h1.ne k o e⟩
def TxnRead (w : World) (bs : List Int) (e : Ending) (w' : World) : Prop :=
 (∃ c n R W RA cr WA cw, TOk c n R W ∧ bs = txnB c n R W ∧ e = .returned (.tuple #[.agg #[.int .i64 c, .int .i64 n, .slice RA R.length cr, .slice WA W.length cw], .nilIface]) ∧ ReadRow w' (fun k => w.heap.size ≤ k) RA R ∧ WriteRow w' (fun k => w.heap.size ≤ k) WA W ∧ Fr (fun _ => False) w w') ∨
 ((∀ c n R W, TOk c n R W → bs ≠ txnB c n R W) ∧ (∃ l k, e = .returned (.tuple #[.agg #[.int .i64 0, .int .i64 0, .slice none 0 0, .slice none 0 0], errV l k])) ∧ Fr (fun _ => False) w w')
theorem results_row2 {P : Program} {fn : Func} {p i : Tmp} {ty : TypeId} (h : fn.results = #[.cell p ty, .tmp i]) (tmps : Array Value) (w : World) (g : Nat) (t : TypeId) (cs : Array Value) (fr : Nat × Nat) (d : TypeDesc)
  (hp : tmps.getD p undef = .pointer (some ⟨g, 0, none⟩)) (hg : w.heap[g]? = some (.cells cs t fr))
  (hu : P.underlying ty = some d) (hd : (match d with | .struct _ | .array _ _ => true | _ => false) = true) (hi : (P.info? ty).map (·.size) = some cs.size) {vi : Value} (h1 : tmps.getD i undef = vi) :
  (results fn tmps).run P w = .ok (.tuple #[.agg cs, vi]) w := by
 have hp' : tmps[p]?.getD undef = .pointer (some ⟨g, 0, none⟩) := by simpa using hp
 have h1' : tmps[i]?.getD undef = vi := by simpa using h1
 simp [results, h, hp', h1', asAddr, run_loadVar_row w g t ty cs fr d hg hu hd hi]
theorem txn_Get {w : World} {F : Nat → Prop} {A0 : Option Addr} {cap : Nat} {bs : List Int} (hr : ByteRow w F A0 bs) (hl : bs.length ≤ 1099511627776) (h8 : Bytes8 bs) :
  Calls Tryz.prog 80 #[.slice A0 bs.length cap] w (TxnRead w bs) := by
 have hf0 : Fr (fun _ => False) w (w.alloc (Obj.cells #[.int .i64 0, .int .i64 0, .slice none 0 0, .slice none 0 0] 29)) := (Fr.refl _ _).alloc _
 have hA0 := Blk.new w 29 #[.int .i64 0, .int .i64 0, .slice none 0 0, .slice none 0 0]
 have HNew := Lib.hid (pr_New (cap := cap) (hr.fr hf0 (fun _ _ => id)) hl)
 have H8 := Lib.hid h8
 clear hr h8
 go_enter Tryz.func80, Tryz.ntmps80
 go_upto_region 2 with (go_at_call 102; refine HNew.out.mono ?_; rintro e w1 ⟨g, A, rfl, h1, hg, hAg, hf1⟩)
 generalize w.alloc (Obj.cells #[.int .i64 0, .int .i64 0, .slice none 0 0, .slice none 0 0] 29) = w0 at *
 have hne1 := h1.ne
 have hA2 := (hA0.fr hf1 id).alloc (Obj.cells #[.pointer (some ⟨g, 0, none⟩)] 196)
 have hB2 := Blk.new w1 196 #[.pointer (some ⟨g, 0, none⟩)]
 have hf2 := (hf0.then_ hf1).alloc (Obj.cells #[.pointer (some ⟨g, 0, none⟩)] 196)
 have h2 := h1.keep ((Fr.refl (fun _ => False) w1).alloc (Obj.cells #[.pointer (some ⟨g, 0, none⟩)] 196))
 have hwa : w.heap.size < w0.heap.size := hA0.lt
 have hga : w.heap.size < g := Nat.lt_of_lt_of_le hwa hg
 have hgl : g < w1.heap.size := by obtain ⟨cs, hB⟩ := h1.blk; exact hB.lt
 generalize w1.alloc (Obj.cells #[.pointer (some ⟨g, 0, none⟩)] 196) = w2 at *
 obtain ⟨b, hb⟩ : ∃ q, Hid (w1.heap.size = q) := ⟨_, rfl⟩
 rw [hb.out] at hB2 hgl hne1
 rw [hb.out]
 have HN : Hid (∀ k o, A = some ⟨k, o, none⟩ → w.heap.size < k ∧ k < b ∧ k ≠ g) := fun k o e => ⟨by have := hAg k o e; omega, (hne1 k o e).1, (hne1 k o e).2⟩
 clear hA0 hf0 hf1 HNew hg hAg h1 hne1
 have c0 := hB2.cell 0
 have H := Lib.hid (pr_Num h2 hl H8.out)
 go_upto_region 3 with (go_at_call 103; refine H.out.mono ?_; rintro e w3 ⟨c, s1, rfl, h3, q1, hf3⟩)
 have Q1 := Lib.hid q1
 have hA3 := hA2.fr hf3 (fun e => by omega)
 have hB3 := hB2.fr hf3 (fun e => by omega)
 have hf03 : Fr (fun _ => False) w w3 := hf2.trans hf3 (fun k hk e => by omega)
 clear H h2 hA2 hB2 hf2 hf3 q1 c0
 have c0 := hB3.cell 0
 have H := Lib.hid (pr_Num h3 hl H8.out)
 go_upto_region 4 with (go_at_call 103; refine H.out.mono ?_; rintro e w4 ⟨n, s2, rfl, h4, q2, hf4⟩)
 have Q2 := Lib.hid q2
 have hfx := (Fr.refl (fun _ => False) w4).alloc (Obj.cells #[.int .i64 c, .int .i64 n, .slice none 0 0, .slice none 0 0] 29)
 have hA5 := (hA3.fr hf4 (fun e => by omega)).fr hfx id
 have hB5 := (hB3.fr hf4 (fun e => by omega)).fr hfx id
 have hT5 := Blk.new w4 29 #[.int .i64 c, .int .i64 n, .slice none 0 0, .slice none 0 0]
 have hf05 : Fr (fun _ => False) w _ := (hf03.trans hf4 (fun k hk e => by omega)).then_ hfx
 have h5 := h4.keep hfx
 have hbw4 : b < w4.heap.size := (hB3.fr hf4 (fun e => by omega)).lt
 generalize w4.alloc (Obj.cells #[.int .i64 c, .int .i64 n, .slice none 0 0, .slice none 0 0] 29) = w5 at *
 obtain ⟨gt, hgt⟩ : ∃ q, Hid (w4.heap.size = q) := ⟨_, rfl⟩
 rw [hgt.out] at hT5 hbw4
 rw [hgt.out]
 clear H h3 hA3 hB3 hf03 hf4 q2 c0 hfx h4
 have c0 := hB5.cell 0
 have H := Lib.hid (txn_some_Read h5 hl H8.out c0 (by omega) h5.ne)
 go_upto_region 5 with (go_at_call 104; refine H.out.mono ?_; rintro e w6 ⟨v6, R, s3, s4, rfl, hR6, lR, h6, q3, q4, hf6⟩; have hT6 := hT5.fr hf6 (fun e => by omega); have y := hT6.cell 2; have z := hT6.frozen 2; obtain ⟨RA, cr, rfl, _⟩ := own_reads hR6)
 have Q3 := Lib.hid q3
 have Q4 := Lib.hid q4
 have hgt5 : gt < w5.heap.size := hT5.lt
 have hR6 := own_base hR6 (base' := gt + 1) (by omega)
 have hA6 := hA5.fr hf6 (fun e => by omega)
 have hB6 := hB5.fr hf6 (fun e => by omega)
 have hf06 : Fr (fun _ => False) w w6 := hf05.trans hf6 (fun k hk e => by omega)
 have hS : Fr (fun k => k = gt) w6 (w6.setCell ⟨gt, 2, none⟩ (.slice RA R.length cr)) := (Fr.refl (fun k => k = gt) w6).setCell (p := ⟨gt, 2, none⟩) (fun _ => rfl) _
 have hT7 : Blk (w6.setCell ⟨gt, 2, none⟩ (.slice RA R.length cr)) gt 29 #[.int .i64 c, .int .i64 n, .slice RA R.length cr, .slice none 0 0] := hT6.set_ 2 _
 have hA7 := hA6.fr hS (fun e => by omega)
 have hB7 := hB6.fr hS (fun e => by omega)
 have hR7 := own_fr hR6 hS (fun q hq e => own_ne_blk hR6 hT6 (by decide) (e ▸ hq))
 have h7 := h6.fr hS (fun e => by omega) (fun k o e he => by have := (HN.out k o e).2.1; omega)
 have hf07 := hf06.trans hS (fun k hk e => by omega)
 generalize w6.setCell ⟨gt, 2, none⟩ (.slice RA R.length cr) = w7 at *
 clear H h5 hA5 hB5 hT5 hf05 hf6 q3 q4 c0 hT6 hA6 hB6 hR6 h6 hf06 hS y z hgt5
 have c0 := hB7.cell 0
 have H := Lib.hid (txn_some_Write h7 hl H8.out c0 (by omega) h7.ne)
 go_upto_region 6 with (go_at_call 107; refine H.out.mono ?_; rintro e w8 ⟨v8, W, s5, st, rfl, hW8, lW, h8, q5, q6, hf8⟩; have hT8 := hT7.fr hf8 (fun e => by omega); have y := hT8.cell 3; have z := hT8.frozen 3; obtain ⟨WA, cw, rfl, _⟩ := own_writes hW8)
 have hsteps : Hid (TxnSteps bs c n R W st) := ⟨s1, s2, s3, s4, s5, Q1.out, Q2.out, Q3.out, Q4.out, q5, q6⟩
 have hgt7 : gt < w7.heap.size := hT7.lt
 have hW8 := own_base hW8 (base' := gt + 1) (by omega)
 have hR8 := own_fr hR7 hf8 (fun q hq e => by obtain ⟨ds, hD⟩ := h7.blk; exact own_ne_blk hR7 hD (by decide) (e ▸ hq))
 have hA8 := hA7.fr hf8 (fun e => by omega)
 have hB8 := hB7.fr hf8 (fun e => by omega)
 have hf08 : Fr (fun _ => False) w w8 := hf07.trans hf8 (fun k hk e => by omega)
 have hS : Fr (fun k => k = gt) w8 (w8.setCell ⟨gt, 3, none⟩ (.slice WA W.length cw)) := (Fr.refl (fun k => k = gt) w8).setCell (p := ⟨gt, 3, none⟩) (fun _ => rfl) _
 have hT9 : Blk (w8.setCell ⟨gt, 3, none⟩ (.slice WA W.length cw)) gt 29 #[.int .i64 c, .int .i64 n, .slice RA R.length cr, .slice WA W.length cw] := hT8.set_ 3 _
 have hA9 := hA8.fr hS (fun e => by omega)
 have hB9 := hB8.fr hS (fun e => by omega)
 have hR9 := own_fr hR8 hS (fun q hq e => own_ne_blk hR8 hT8 (by decide) (e ▸ hq))
 have hW9 := own_fr hW8 hS (fun q hq e => own_ne_blk hW8 hT8 (by decide) (e ▸ hq))
 have h9 := h8.fr hS (fun e => by omega) (fun k o e he => by have := (HN.out k o e).2.1; omega)
 have hf09 := hf08.trans hS (fun k hk e => by omega)
 generalize w8.setCell ⟨gt, 3, none⟩ (.slice WA W.length cw) = w9 at *
 clear H h7 hA7 hB7 hT7 hR7 hf07 hf8 q5 q6 c0 hT8 hA8 hB8 hR8 hW8 h8 hf08 hS y z hgt7 Q1 Q2 Q3 Q4
 obtain ⟨_, _, eR, hRR⟩ := own_reads hR9
 cases eR
 obtain ⟨_, _, eW, hWW⟩ := own_writes hW9
 cases eW
 have c0 := hB9.cell 0
 have H := Lib.hid (pr_End h9 hl)
 have hfew : FewT R W := ⟨by omega, by omega, .inl (by omega)⟩
 go_upto_region 6 with fail
 by_cases hst : st = some []
 ·subst hst
  have hbs : Hid (bs = txnB c n R W) := hsteps.out.keep
  have H2 : Hid (Calls Tryz.prog 110 #[.pointer (some ⟨g, 0, none⟩)] w9 (NilOk w9)) := by
   refine H.out.mono ?_
   rintro e w' ⟨err, he, h1, hf⟩
   rw [h1.2 rfl] at he
   exact ⟨he, hf⟩
  clear H
  by_cases hok : TOk c n R W
  ·have HCk := Lib.hid (fun w' (hf : Fr (fun _ => False) w9 w') => txn_Check_ok (cr := cr) (cw := cw) (hRR.fr hf (fun _ _ => id)) (hWW.fr hf (fun _ _ => id)) hok)
   have HOK := Lib.hid hok
   clear hok
   go_upto_region 7 with (first
    | (go_at_call 110; refine H2.out.mono ?_; rintro e w10 ⟨rfl, hf10⟩)
    | (go_at_call 109; refine (txn_wrap_nil _).mono ?_; rintro e w11 ⟨rfl, rfl⟩))
   have hT10 := hT9.fr hf10 id
   go_upto_region 9 with (first
    | (refine wpList_load_row rfl 29 _ rfl _ rfl _ _ (0, 0) _ hT10 Tryz.underlying29 rfl (by kernel_rfl) ?_)
    | (go_at_call 111; refine (HCk.out _ hf10).mono ?_; rintro e w12 ⟨rfl, hf12⟩))
   have hT12 := hT10.fr hf12 id
   have hA12 := (hA9.fr hf10 id).fr hf12 id
   have hR12 := (hRR.fr hf10 (fun _ _ => id)).fr hf12 (fun _ _ => id)
   have hW12 := (hWW.fr hf10 (fun _ _ => id)).fr hf12 (fun _ _ => id)
   have hf012 := (hf09.then_ hf10).then_ hf12
   go_wp2_with (first
    | (refine wpList_load_row rfl 29 _ rfl _ rfl _ _ (0, 0) _ hT12 Tryz.underlying29 rfl (by kernel_rfl) ?_)
    | (refine wpList_store_row rfl 29 (.tmp 2) (.tmp 35) rfl w.heap.size #[.int .i64 c, .int .i64 n, .slice RA R.length cr, .slice WA W.length cw] rfl rfl 29 _ hA12 (by kernel_rfl) rfl (by simp [Value.oneCell']) ?_))
   have hA13 := Blk.setRow_ (ds := #[.int .i64 c, .int .i64 n, .slice RA R.length cr, .slice WA W.length cw]) hA12
   have hfz := Fr.setRow_ (w := w12) (g := w.heap.size) (ds := #[.int .i64 c, .int .i64 n, .slice RA R.length cr, .slice WA W.length cw])
   have hfe : Fr (fun _ => False) w _ := hf012.trans hfz (fun k hk e => by omega)
   generalize w12.setRow w.heap.size #[.int .i64 c, .int .i64 n, .slice RA R.length cr, .slice WA W.length cw] = wz at *
   refine bodyPost_ret (v := .tuple #[.agg #[.int .i64 c, .int .i64 n, .slice RA R.length cr, .slice WA W.length cw], .nilIface]) (results_row2 Tryz.results80 _ wz w.heap.size 29 #[.int .i64 c, .int .i64 n, .slice RA R.length cr, .slice WA W.length cw] (0, 0) _ rfl hA13 Tryz.underlying29 rfl (by kernel_rfl) rfl) rfl ?_
   exact .inl ⟨c, n, R, W, RA, cr, WA, cw, HOK.out, hbs.out, rfl, (hR12.fr hfz (fun k hk e => by omega)).mono_ (fun k hk => by omega), (hW12.fr hfz (fun k hk e => by omega)).mono_ (fun k hk => by omega), hfe⟩
  ·have HCk := Lib.hid (fun w' (hf : Fr (fun _ => False) w9 w') => txn_Check_bad (cr := cr) (cw := cw) (hRR.fr hf (fun _ _ => id)) (hWW.fr hf (fun _ _ => id)) hfew hok)
   have HNO : Hid (∀ c n R W, TOk c n R W → bs ≠ txnB c n R W) := fun c0 n0 R0 W0 h e => by
    have h1 := hsteps.out
    rw [e] at h1
    obtain ⟨_, rfl, rfl, rfl, rfl⟩ := h1.go h
    exact hok h
   obtain ⟨et, eu, he⟩ := errV_iface [((⟨#[116, 120, 110]⟩ : ByteArray), 0)] 101
   have HE := Lib.hid he
   unfold TxnErr at HCk
   rw [he] at HCk
   clear hok he
   go_upto_region 7 with (first
    | (go_at_call 110; refine H2.out.mono ?_; rintro e w10 ⟨rfl, hf10⟩)
    | (go_at_call 109; refine (txn_wrap_nil _).mono ?_; rintro e w11 ⟨rfl, rfl⟩))
   have hT10 := hT9.fr hf10 id
   go_upto_region 9 with (first
    | (refine wpList_load_row rfl 29 _ rfl _ rfl _ _ (0, 0) _ hT10 Tryz.underlying29 rfl (by kernel_rfl) ?_)
    | (go_at_call 111; refine (HCk.out _ hf10).mono ?_; rintro e w12 ⟨rfl, hf12⟩))
   have hAx := (hA9.fr hf10 id).fr hf12 id
   have hfx := (hf09.then_ hf10).then_ hf12
   generalize w12 = wx at *
   go_wp2_with (first
    | (refine wpList_store_row rfl 29 (.tmp 2) (.tmp 33) rfl w.heap.size #[.int .i64 0, .int .i64 0, .slice none 0 0, .slice none 0 0] rfl rfl 29 _ hAx (by kernel_rfl) rfl (by simp [Value.oneCell']) ?_))
   have hA13 := Blk.setRow_ (ds := #[.int .i64 0, .int .i64 0, .slice none 0 0, .slice none 0 0]) hAx
   have hfz := Fr.setRow_ (w := wx) (g := w.heap.size) (ds := #[.int .i64 0, .int .i64 0, .slice none 0 0, .slice none 0 0])
   have hfe : Fr (fun _ => False) w _ := hfx.trans hfz (fun k hk e => by omega)
   generalize wx.setRow w.heap.size #[.int .i64 0, .int .i64 0, .slice none 0 0, .slice none 0 0] = wz at *
   refine bodyPost_ret (v := .tuple #[.agg #[.int .i64 0, .int .i64 0, .slice none 0 0, .slice none 0 0], .iface et eu]) (results_row2 Tryz.results80 _ wz w.heap.size 29 #[.int .i64 0, .int .i64 0, .slice none 0 0, .slice none 0 0] (0, 0) _ rfl hA13 Tryz.underlying29 rfl (by kernel_rfl) rfl) rfl ?_
   exact .inr ⟨HNO.out, ⟨_, _, by rw [HE.out]⟩, hfe⟩
 ·have HNO : Hid (∀ c n R W, TOk c n R W → bs ≠ txnB c n R W) := fun c0 n0 R0 W0 h e => by
   have h1 := hsteps.out
   rw [e] at h1
   exact hst (h1.go h).1
  have H2 : Hid (Calls Tryz.prog 110 #[.pointer (some ⟨g, 0, none⟩)] w9 (fun e w' => ∃ q : List (ByteArray × Int) × Int, e = .returned (errV q.1 q.2) ∧ Fr (fun _ => False) w9 w')) := by
   refine H.out.mono ?_
   rintro e w' ⟨err, he, h1, hf⟩
   cases err with
   | none => exact absurd (h1.1 rfl) hst
   | some q => exact ⟨q, he, hf⟩
  clear H hst
  go_upto_region 7 with (first
   | (go_at_call 110; refine H2.out.mono ?_; rintro e w10 ⟨⟨ql, qk⟩, rfl, hf10⟩; obtain ⟨et, eu, he⟩ := errV_iface (((⟨#[116, 120, 110]⟩ : ByteArray), 0) :: ql) qk; have HWr := txn_wrap_err ql qk w10; rw [he] at HWr; replace HWr := Lib.hid HWr; have HE := Lib.hid he; clear he)
   | (go_at_call 109; refine HWr.out.mono ?_; rintro e w11 ⟨rfl, rfl⟩))
  have hAx := hA9.fr hf10 id
  have hfx := hf09.then_ hf10
  generalize w10 = wx at *
  go_wp2_with (first
   | (refine wpList_store_row rfl 29 (.tmp 2) (.tmp 33) rfl w.heap.size #[.int .i64 0, .int .i64 0, .slice none 0 0, .slice none 0 0] rfl rfl 29 _ hAx (by kernel_rfl) rfl (by simp [Value.oneCell']) ?_))
  have hA13 := Blk.setRow_ (ds := #[.int .i64 0, .int .i64 0, .slice none 0 0, .slice none 0 0]) hAx
  have hfz := Fr.setRow_ (w := wx) (g := w.heap.size) (ds := #[.int .i64 0, .int .i64 0, .slice none 0 0, .slice none 0 0])
  have hfe : Fr (fun _ => False) w _ := hfx.trans hfz (fun k hk e => by omega)
  generalize wx.setRow w.heap.size #[.int .i64 0, .int .i64 0, .slice none 0 0, .slice none 0 0] = wz at *
  refine bodyPost_ret (v := .tuple #[.agg #[.int .i64 0, .int .i64 0, .slice none 0 0, .slice none 0 0], .iface et eu]) (results_row2 Tryz.results80 _ wz w.heap.size 29 #[.int .i64 0, .int .i64 0, .slice none 0 0, .slice none 0 0] (0, 0) _ rfl hA13 Tryz.underlying29 rfl (by kernel_rfl) rfl) rfl ?_
  exact .inr ⟨HNO.out, ⟨_, _, by rw [HE.out]⟩, hfe⟩
end Go.Proofs.YtmkdhhhoodeemaaGreat
