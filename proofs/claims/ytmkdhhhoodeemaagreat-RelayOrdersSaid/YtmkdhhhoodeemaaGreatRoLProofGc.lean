/- Parts of the proof, joined. -/
import Derived.Laws.StructEq
import Derived.Lib.Hide
import Derived.Laws.BitsLemmas
import Derived.Deep.AppendLies
import Derived.Deep.RegionLaw
import Derived.Test.YtmkdhhhoodeemaaGreatRoLProofGa
import Derived.Test.YtmkdhhhoodeemaaGreatRoLProofGb
set_option linter.unusedVariables false
set_option linter.unusedSimpArgs false
set_option maxRecDepth 100000
set_option maxHeartbeats 16000000
namespace Go.Proofs.YtmkdhhhoodeemaaGreat
open Go Go.RowKit
theorem IntRow.at_ {w : World} {B : Nat} {A : Option Addr} {l : List Int} (h : IntRow w B A l) {k : Nat} {x : Int} (hx : l[k]? = some x) : ∃ b o, A = some ⟨b, o, none⟩ ∧ w.cell? ⟨b, o + k, none⟩ = some (.int .i64 x) := by
 obtain ⟨b, o, h1, _, h2⟩ := h k x hx
 exact ⟨b, o, h1, h2⟩
def MinOf (l : List Int) (m : Int) : Prop := m ∈ l ∧ ∀ x ∈ l, m ≤ x
def MaxOf (l : List Int) (m : Int) : Prop := m ∈ l ∧ ∀ x ∈ l, x ≤ m
theorem take_mem {α : Type} {l : List α} {k : Nat} {x : α} (h : l[k]? = some x) : l.take (k + 1) = l.take k ++ [x] := by
 obtain ⟨hlt, rfl⟩ := List.getElem?_eq_some_iff.1 h
 exact List.take_succ_eq_append_getElem hlt
theorem MinOf.keep {l : List Int} {k : Nat} {m x : Int} (h : MinOf (l.take k) m) (hx : l[k]? = some x) (hm : ¬ x < m) : MinOf (l.take (k + 1)) m := by
 rw [take_mem hx]
 exact ⟨List.mem_append_left _ h.1, fun y hy => (List.mem_append.1 hy).elim (h.2 y) (fun e => by rw [List.mem_singleton.1 e]; omega)⟩
theorem MinOf.step {l : List Int} {k : Nat} {m x : Int} (h : MinOf (l.take k) m) (hx : l[k]? = some x) (hm : x < m) : MinOf (l.take (k + 1)) x := by
 rw [take_mem hx]
 exact ⟨List.mem_append_right _ (List.mem_singleton.2 rfl), fun y hy => (List.mem_append.1 hy).elim (fun e => by have := h.2 y e; omega) (fun e => by rw [List.mem_singleton.1 e]; exact Int.le_refl _)⟩
theorem MaxOf.keep {l : List Int} {k : Nat} {m x : Int} (h : MaxOf (l.take k) m) (hx : l[k]? = some x) (hm : ¬ m < x) : MaxOf (l.take (k + 1)) m := by
 rw [take_mem hx]
 exact ⟨List.mem_append_left _ h.1, fun y hy => (List.mem_append.1 hy).elim (h.2 y) (fun e => by rw [List.mem_singleton.1 e]; omega)⟩
theorem MaxOf.step {l : List Int} {k : Nat} {m x : Int} (h : MaxOf (l.take k) m) (hx : l[k]? = some x) (hm : m < x) : MaxOf (l.take (k + 1)) x := by
 rw [take_mem hx]
 exact ⟨List.mem_append_right _ (List.mem_singleton.2 rfl), fun y hy => (List.mem_append.1 hy).elim (fun e => by have := h.2 y e; omega) (fun e => by rw [List.mem_singleton.1 e]; exact Int.le_refl _)⟩
theorem slices_MinAll {w : World} {B : Nat} {A : Option Addr} {cap : Nat} {l : List Int} (hr : IntRow w B A l) (hl : 1 ≤ l.length) (hll : l.length ≤ 1000000) :
  Calls Tryz.prog 158 #[.slice A l.length cap] w fun e w' => (∃ m, e = .returned (.int .i64 m) ∧ MinOf l m) ∧ w = w' := by
 obtain ⟨x0, hx0⟩ : ∃ x, l[0]? = some x := ⟨l[0], List.getElem?_eq_getElem (by omega)⟩
 obtain ⟨b, o, rfl, hc⟩ := hr.at_ hx0
 rw [Nat.add_zero] at hc
 have HR := Lib.hid hr
 have hl1 : ¬ (l.length : Int) < 1 := by omega
 have h0 : Hid (MinOf (l.take 1) x0) := by
  show MinOf _ _
  rw [take_mem hx0]
  exact ⟨by simp, fun y hy => by simp at hy; omega⟩
 clear hr hx0
 go_enter Tryz.func158, Tryz.ntmps158
 go_wp2_with fail
 clear hc
 go_loopw [3, 4] (fun mv i wr => ∃ (k : Nat) (m : Int), 1 ≤ k ∧ k ≤ l.length ∧ mv = .int .i64 m ∧ i = .int .i64 k ∧ MinOf (l.take k) m ∧ w = wr) (fun _ i _ => l.length - (intOf i).toNat)
 case atStart => exact ⟨1, x0, Nat.le_refl _, hl, rfl, rfl, h0.out, rfl⟩
 case round =>
  obtain ⟨k, m, hk1, hk, rfl, rfl, hm, rfl⟩ := hrel
  have HM := Lib.hid hm
  clear hm h0
  by_cases hlt : k < l.length
  ·have hlt' : (k : Int) < (l.length : Int) := by omega
   obtain ⟨x, hx⟩ : ∃ x, l[k]? = some x := ⟨l[k], List.getElem?_eq_getElem hlt⟩
   obtain ⟨b', o', he, hc⟩ := HR.out.at_ hx
   cases he
   have HX := Lib.hid hx
   clear hx
   by_cases hmx : x < m
   ·go_wp2_with fail
    go_roundw
    case rel => exact ⟨k + 1, _, by omega, by omega, rfl, by go_num, HM.out.step HX.out hmx, by trivial⟩
    case measure => simp [intOf]; omega
   ·go_wp2_with fail
    go_roundw
    case rel => exact ⟨k + 1, _, by omega, by omega, rfl, by go_num, HM.out.keep HX.out hmx, by trivial⟩
    case measure => simp [intOf]; omega
  ·obtain rfl : k = l.length := by omega
   rw [List.take_length] at HM
   clear hlt
   go_wp2_with fail
   go_ret
   exact ⟨⟨m, rfl, HM.out⟩, by trivial⟩
theorem slices_MaxAll {w : World} {B : Nat} {A : Option Addr} {cap : Nat} {l : List Int} (hr : IntRow w B A l) (hl : 1 ≤ l.length) (hll : l.length ≤ 1000000) :
  Calls Tryz.prog 159 #[.slice A l.length cap] w fun e w' => (∃ m, e = .returned (.int .i64 m) ∧ MaxOf l m) ∧ w = w' := by
 obtain ⟨x0, hx0⟩ : ∃ x, l[0]? = some x := ⟨l[0], List.getElem?_eq_getElem (by omega)⟩
 obtain ⟨b, o, rfl, hc⟩ := hr.at_ hx0
 rw [Nat.add_zero] at hc
 have HR := Lib.hid hr
 have hl1 : ¬ (l.length : Int) < 1 := by omega
 have h0 : Hid (MaxOf (l.take 1) x0) := by
  show MaxOf _ _
  rw [take_mem hx0]
  exact ⟨by simp, fun y hy => by simp at hy; omega⟩
 clear hr hx0
 go_enter Tryz.func159, Tryz.ntmps159
 go_wp2_with fail
 clear hc
 go_loopw [3, 4] (fun mv i wr => ∃ (k : Nat) (m : Int), 1 ≤ k ∧ k ≤ l.length ∧ mv = .int .i64 m ∧ i = .int .i64 k ∧ MaxOf (l.take k) m ∧ w = wr) (fun _ i _ => l.length - (intOf i).toNat)
 case atStart => exact ⟨1, x0, Nat.le_refl _, hl, rfl, rfl, h0.out, rfl⟩
 case round =>
  obtain ⟨k, m, hk1, hk, rfl, rfl, hm, rfl⟩ := hrel
  have HM := Lib.hid hm
  clear hm h0
  by_cases hlt : k < l.length
  ·have hlt' : (k : Int) < (l.length : Int) := by omega
   obtain ⟨x, hx⟩ : ∃ x, l[k]? = some x := ⟨l[k], List.getElem?_eq_getElem hlt⟩
   obtain ⟨b', o', he, hc⟩ := HR.out.at_ hx
   cases he
   have HX := Lib.hid hx
   clear hx
   by_cases hmx : m < x
   ·go_wp2_with fail
    go_roundw
    case rel => exact ⟨k + 1, _, by omega, by omega, rfl, by go_num, HM.out.step HX.out hmx, by trivial⟩
    case measure => simp [intOf]; omega
   ·go_wp2_with fail
    go_roundw
    case rel => exact ⟨k + 1, _, by omega, by omega, rfl, by go_num, HM.out.keep HX.out hmx, by trivial⟩
    case measure => simp [intOf]; omega
  ·obtain rfl : k = l.length := by omega
   rw [List.take_length] at HM
   clear hlt
   go_wp2_with fail
   go_ret
   exact ⟨⟨m, rfl, HM.out⟩, by trivial⟩
def Betw (top : Int) (l : List Int) : Bool := l.all fun x => decide (0 ≤ x ∧ x ≤ top)
theorem betw_eq {top : Int} {l : List Int} {m n : Int} (h1 : MinOf l m) (h2 : MaxOf l n) : Betw top l = (decide (0 ≤ m) && decide (n ≤ top)) := by
 rw [Bool.eq_iff_iff, Bool.and_eq_true, decide_eq_true_eq, decide_eq_true_eq, Betw, List.all_eq_true]
 constructor
 ·intro h
  have a := h m h1.1
  have b := h n h2.1
  rw [decide_eq_true_eq] at a b
  exact ⟨a.1, b.2⟩
 ·rintro ⟨a, b⟩ x hx
  have := h1.2 x hx
  have := h2.2 x hx
  rw [decide_eq_true_eq]
  omega
theorem MinOf.uniq {l : List Int} {m n : Int} (h : MinOf l m) (k : MinOf l n) : m = n := Int.le_antisymm (h.2 _ k.1) (k.2 _ h.1)
theorem MaxOf.uniq {l : List Int} {m n : Int} (h : MaxOf l m) (k : MaxOf l n) : m = n := Int.le_antisymm (k.2 _ h.1) (h.2 _ k.1)
theorem min_max : ∀ (l : List Int), 1 ≤ l.length → (∃ m, MinOf l m) ∧ ∃ m, MaxOf l m
 | [x], _ => ⟨⟨x, by simp [MinOf]⟩, ⟨x, by simp [MaxOf]⟩⟩
 | x :: y :: l, _ => by
  obtain ⟨⟨m, h1, h2⟩, ⟨n, h3, h4⟩⟩ := min_max (y :: l) (by simp)
  refine ⟨?_, ?_⟩
  ·by_cases h : x ≤ m
   ·exact ⟨x, by simp, fun z hz => by rcases List.mem_cons.1 hz with rfl | hz; exact Int.le_refl _; have := h2 z hz; omega⟩
   ·exact ⟨m, List.mem_cons_of_mem _ h1, fun z hz => by rcases List.mem_cons.1 hz with rfl | hz; omega; exact h2 z hz⟩
  ·by_cases h : n ≤ x
   ·exact ⟨x, by simp, fun z hz => by rcases List.mem_cons.1 hz with rfl | hz; exact Int.le_refl _; have := h4 z hz; omega⟩
   ·exact ⟨n, List.mem_cons_of_mem _ h3, fun z hz => by rcases List.mem_cons.1 hz with rfl | hz; omega; exact h4 z hz⟩
theorem say_betweenAll {w : World} {B : Nat} {A : Option Addr} {cap : Nat} {l : List Int} (hr : IntRow w B A l) (hl : 1 ≤ l.length) (hll : l.length ≤ 1000000) (top : Int) :
  Calls Tryz.prog 125 #[.int .i64 top, .slice A l.length cap] w fun e w' => e = .returned (.bool (Betw top l)) ∧ w = w' := by
 obtain ⟨⟨m, hm⟩, ⟨n, hn⟩⟩ := min_max l hl
 have H1 : Hid (Calls Tryz.prog 158 #[.slice A l.length cap] w fun e w' => e = .returned (.int .i64 m) ∧ w = w') := (slices_MinAll (cap := cap) hr hl hll).mono fun e w' ⟨⟨x, h1, h2⟩, h3⟩ => ⟨by rw [h1, h2.uniq hm], h3⟩
 have H2 : Hid (Calls Tryz.prog 159 #[.slice A l.length cap] w fun e w' => e = .returned (.int .i64 n) ∧ w = w') := (slices_MaxAll (cap := cap) hr hl hll).mono fun e w' ⟨⟨x, h1, h2⟩, h3⟩ => ⟨by rw [h1, h2.uniq hn], h3⟩
 rw [betw_eq hm hn]
 clear hr hl hll hm hn
 by_cases h0 : 0 ≤ m
 ·go_enter Tryz.func125, Tryz.ntmps125
  go_wp2_with (first | (go_at_call 158; refine H1.out.mono ?_; rintro e w' ⟨rfl, rfl⟩) | (go_at_call 159; refine H2.out.mono ?_; rintro e w' ⟨rfl, rfl⟩))
  go_ret
  exact ⟨by simp [h0], rfl⟩
 ·go_enter Tryz.func125, Tryz.ntmps125
  go_wp2_with (first | (go_at_call 158; refine H1.out.mono ?_; rintro e w' ⟨rfl, rfl⟩) | (go_at_call 159; refine H2.out.mono ?_; rintro e w' ⟨rfl, rfl⟩))
  go_ret
  exact ⟨by rw [decide_eq_false (p := 0 ≤ m) (by omega)]; rfl, rfl⟩
theorem say_none_zero (w : World) {cr cw : Nat} : Calls Tryz.prog 155 #[.agg #[.int .i64 0, .int .i64 0, .slice none 0 cr, .slice none 0 cw]] w (OkB w true) := by
 go_enter Tryz.func155, Tryz.ntmps155
 go_wp2_with fail
 go_ret
 exact ⟨rfl, (Fr.refl _ _).alloc _⟩
theorem say_none_not (w : World) {A B : Option Addr} {nr nw cr cw : Nat} {c n : Int} (hn : n ≠ 0) : Calls Tryz.prog 155 #[.agg #[.int .i64 c, .int .i64 n, .slice A nr cr, .slice B nw cw]] w (OkB w false) := by
 by_cases hc : c = 0
 ·have q : (n == 0) = false := by simp [hn]
  subst hc
  go_enter Tryz.func155, Tryz.ntmps155
  go_wp2_with fail
  go_ret
  exact ⟨rfl, (Fr.refl _ _).alloc _⟩
 ·have q : (c == 0) = false := by simp [hc]
  go_enter Tryz.func155, Tryz.ntmps155
  go_wp2_with fail
  go_ret
  exact ⟨rfl, (Fr.refl _ _).alloc _⟩
def NonePair (w : World) (e : Ending) (w' : World) : Prop := e = .returned (.tuple #[.slice none 0 0, .nilIface]) ∧ Fr (fun _ => False) w w'
theorem say_optTxn_none (w : World) (f : Value) {A B : Option Addr} {nr nw cr cw : Nat} {c n : Int} : Calls Tryz.prog 148 #[.bool false, .agg #[.int .i64 c, .int .i64 n, .slice A nr cr, .slice B nw cw], f] w (NonePair w) := by
 go_enter Tryz.func148, Tryz.ntmps148
 go_wp2_with fail
 refine bodyPost_ret (v := .tuple #[.slice none 0 0, .nilIface]) (by simp [results, Tryz.results148, go_sem]) rfl ?_
 exact ⟨rfl, (Fr.refl _ _).alloc _⟩
theorem say_optSay_none (w : World) (f : Value) (kind txn : Int) (yes : Bool) (ff tt : ByteArray) (epoch shard target root : Int) : Calls Tryz.prog 150 #[.bool false, .agg #[.int .i64 kind, .int .i64 txn, .bool yes, .string ff, .string tt, .int .i64 epoch, .int .i64 shard, .int .i64 target, .int .i64 root], f] w (NonePair w) := by
 go_enter Tryz.func150, Tryz.ntmps150
 go_wp2_with fail
 refine bodyPost_ret (v := .tuple #[.slice none 0 0, .nilIface]) (by simp [results, Tryz.results150, go_sem]) rfl ?_
 exact ⟨rfl, (Fr.refl _ _).alloc _⟩
def PutP (w : World) (bs : List Int) (r : Value) (e : Ending) (w' : World) : Prop :=
 ∃ v, e = .returned (.tuple #[v, r]) ∧ Own8 w' w.heap.size v bs ∧ Fr (fun _ => False) w w'
theorem PutP.before {w w1 w' : World} {bs : List Int} {r : Value} {e : Ending} (h : PutP w1 bs r e w') (hf : Fr (fun _ => False) w w1) : PutP w bs r e w' := by
 obtain ⟨v, h1, h2, h3⟩ := h
 exact ⟨v, h1, h2.base_ hf.size, hf.then_ h3⟩
theorem say_optTxn_put {w : World} {A B : Option Addr} {nr nw cr cw : Nat} {c n : Int} {bs : List Int} {r : Value} (h : ∀ w', Fr (fun _ => False) w w' → Calls Tryz.prog 149 #[.agg #[.int .i64 c, .int .i64 n, .slice A nr cr, .slice B nw cw]] w' (PutP w' bs r)) :
  Calls Tryz.prog 148 #[.bool true, .agg #[.int .i64 c, .int .i64 n, .slice A nr cr, .slice B nw cw], .func (.func 149) #[] #[]] w (PutP w bs r) := by
 have HP := Lib.hid (h _ ((Fr.refl (fun _ => False) w).alloc (Obj.cells #[.int .i64 c, .int .i64 n, .slice A nr cr, .slice B nw cw] 29)))
 clear h
 go_enter Tryz.func148, Tryz.ntmps148
 go_wp2_with (first | (go_at_call 149; refine HP.out.mono ?_; rintro e w1 ⟨v, rfl, hv, hf⟩))
 refine bodyPost_ret (v := .tuple #[v, r]) (by simp [results, Tryz.results148, go_sem]) rfl ?_
 exact PutP.before ⟨v, rfl, hv, hf⟩ ((Fr.refl (fun _ => False) w).alloc _)
theorem say_optSay_put {w : World} {s : SayD} {bs : List Int} {r : Value} (h : ∀ w', Fr (fun _ => False) w w' → Calls Tryz.prog 77 #[.agg #[.int .i64 s.kind, .int .i64 s.txn, .bool s.yes, .string s.from_, .string s.to_, .int .i64 s.epoch, .int .i64 s.shard, .int .i64 s.target, .int .i64 s.root]] w' (PutP w' bs r)) :
  Calls Tryz.prog 150 #[.bool true, .agg #[.int .i64 s.kind, .int .i64 s.txn, .bool s.yes, .string s.from_, .string s.to_, .int .i64 s.epoch, .int .i64 s.shard, .int .i64 s.target, .int .i64 s.root], .func (.func 77) #[] #[]] w (PutP w bs r) := by
 have HP := Lib.hid (h _ ((Fr.refl (fun _ => False) w).alloc (Obj.cells #[.int .i64 s.kind, .int .i64 s.txn, .bool s.yes, .string s.from_, .string s.to_, .int .i64 s.epoch, .int .i64 s.shard, .int .i64 s.target, .int .i64 s.root] 23)))
 clear h
 go_enter Tryz.func150, Tryz.ntmps150
 go_wp2_with (first | (go_at_call 77; refine HP.out.mono ?_; rintro e w1 ⟨v, rfl, hv, hf⟩))
 refine bodyPost_ret (v := .tuple #[v, r]) (by simp [results, Tryz.results150, go_sem]) rfl ?_
 exact PutP.before ⟨v, rfl, hv, hf⟩ ((Fr.refl (fun _ => False) w).alloc _)
def NilOr (v : Value) : Prop := v = .nilIface ∨ ∃ t u, v = .iface t u
def someErr (l : List Value) : Bool := l.any fun v => match v with | .nilIface => false | _ => true
theorem texts1_nil (w : World) : Calls Tryz.prog 154 #[.nilIface] w fun e w' => e = .returned (.bool false) ∧ w = w' := by
 go_enter Tryz.func154, Tryz.ntmps154
 go_wp2_with fail
 go_ret
 exact ⟨rfl, rfl⟩
theorem texts1_some (w : World) (t : TypeId) (u : Value) : Calls Tryz.prog 154 #[.iface t u] w fun e w' => e = .returned (.bool true) ∧ w = w' := by
 go_enter Tryz.func154, Tryz.ntmps154
 go_wp2_with fail
 go_ret
 exact ⟨rfl, rfl⟩
def ErrRow (w : World) (b : Nat) (l : List Value) : Prop := ∀ k v, l[k]? = some v → w.cell? ⟨b, k, none⟩ = some v ∧ NilOr v
theorem indexErr {w : World} {b cap : Nat} {l : List Value} (hr : ErrRow w b l) (hll : l.length ≤ 1000000) :
  Calls Tryz.prog 178 #[.slice (some ⟨b, 0, none⟩) l.length cap, .func (.func 154) #[] #[]] w fun e w' => (∃ i : Int, e = .returned (.int .i64 i) ∧ (decide (0 ≤ i) = someErr l)) ∧ w = w' := by
 go_enter Tryz.func178, Tryz.ntmps178
 go_wp2_with fail
 go_loopw [8] (fun i wr => ∃ k : Nat, k ≤ l.length ∧ i = .int .i64 k ∧ (∀ j v, j < k → l[j]? = some v → v = .nilIface) ∧ w = wr) (fun i _ => l.length - (intOf i).toNat)
 case atStart => exact ⟨0, by omega, rfl, fun j s h _ => by omega, rfl⟩
 case round =>
  obtain ⟨k, hk, rfl, hsh, rfl⟩ := hrel
  by_cases hlt : k < l.length
  ·obtain ⟨x, hx0⟩ : ∃ x, l[k]? = some x := ⟨l[k], List.getElem?_eq_getElem hlt⟩
   obtain ⟨hc, hn⟩ := hr k x hx0
   have hlt' : (k : Int) < (l.length : Int) := by omega
   have HX := Lib.hid hx0
   have HS := Lib.hid hsh
   clear hr hx0 hsh
   rcases hn with rfl | ⟨t, u, rfl⟩
   ·go_wp2_with (first
     | (go_at_call 154; refine (texts1_nil _).mono ?_; rintro e w1 ⟨rfl, rfl⟩))
    go_roundw
    case rel =>
     refine ⟨k + 1, by omega, by go_num, ?_, by trivial⟩
     intro j v hj hs
     by_cases hjk : j = k
     ·subst hjk
      have e := HX.out
      rw [hs] at e
      exact Option.some.inj e
     ·exact HS.out j v (by omega) hs
    case measure => simp [intOf]; omega
   ·have HL : Hid (someErr l = true) := by
     show someErr l = true
     rw [someErr, List.any_eq_true]
     exact ⟨_, List.mem_of_getElem? HX.out, rfl⟩
    go_wp2_with (first
     | (go_at_call 154; refine (texts1_some _ _ _).mono ?_; rintro e w1 ⟨rfl, rfl⟩))
    go_ret
    exact ⟨⟨_, rfl, by rw [HL.out]; simp⟩, rfl⟩
  ·obtain rfl : k = l.length := by omega
   have HL : Hid (someErr l = false) := by
    show someErr l = false
    rw [someErr, List.any_eq_false]
    intro s hs
    obtain ⟨j, hj, rfl⟩ := List.mem_iff_getElem.1 hs
    have := hsh j _ hj (List.getElem?_eq_getElem hj)
    rw [this]
    simp
   clear hr hsh
   go_wp2
   go_ret
   exact ⟨⟨_, rfl, by rw [HL.out]; simp⟩, rfl⟩
theorem containsErr {w : World} {b cap : Nat} {l : List Value} {z : Bool} (hz : someErr l = z) (hr : ErrRow w b l) (hll : l.length ≤ 1000000) :
  Calls Tryz.prog 153 #[.slice (some ⟨b, 0, none⟩) l.length cap, .func (.func 154) #[] #[]] w fun e w' => e = .returned (.bool z) ∧ w = w' := by
 have HZ := Lib.hid hz
 clear hz
 go_enter Tryz.func153, Tryz.ntmps153
 go_wp2_with fail
 refine (indexErr hr hll).mono ?_
 rintro e w1 ⟨⟨i, rfl, hi⟩, rfl⟩
 have HI := Lib.hid hi
 clear hi
 go_wp2
 go_ret
 exact ⟨by rw [← HZ.out, ← HI.out]; rfl, rfl⟩
theorem index_noneE (w : World) (f : Value) (cap : Nat) : Calls Tryz.prog 112 #[.slice none 0 cap, f] w fun e w' => e = .returned (.int .i64 (-1)) ∧ w = w' := by
 go_enter Tryz.func112, Tryz.ntmps112
 go_wp2_with fail
 go_loopw [8] (fun i wr => i = .int .i64 0 ∧ w = wr) (fun _ _ => 0)
 case atStart => exact ⟨rfl, rfl⟩
 case round =>
  obtain ⟨rfl, rfl⟩ := hrel
  go_wp2_with fail
  go_ret
  exact ⟨rfl, rfl⟩
theorem contains_noneE (w : World) (f : Value) (cap : Nat) : Calls Tryz.prog 181 #[.slice none 0 cap, f] w fun e w' => e = .returned (.bool false) ∧ w = w' := by
 go_enter Tryz.func181, Tryz.ntmps181
 go_wp2_with (first | (go_at_call 112; refine (index_noneE _ _ _).mono ?_; rintro e w1 ⟨rfl, rfl⟩))
 go_ret
 exact ⟨rfl, rfl⟩
theorem index_noneI (w : World) (f : Value) (cap : Nat) : Calls Tryz.prog 186 #[.slice none 0 cap, f] w fun e w' => e = .returned (.int .i64 (-1)) ∧ w = w' := by
 go_enter Tryz.func186, Tryz.ntmps186
 go_wp2_with fail
 go_loopw [8] (fun i wr => i = .int .i64 0 ∧ w = wr) (fun _ _ => 0)
 case atStart => exact ⟨rfl, rfl⟩
 case round =>
  obtain ⟨rfl, rfl⟩ := hrel
  go_wp2_with fail
  go_ret
  exact ⟨rfl, rfl⟩
theorem contains_noneI (w : World) (f : Value) (cap : Nat) : Calls Tryz.prog 182 #[.slice none 0 cap, f] w fun e w' => e = .returned (.bool false) ∧ w = w' := by
 go_enter Tryz.func182, Tryz.ntmps182
 go_wp2_with (first | (go_at_call 186; refine (index_noneI _ _ _).mono ?_; rintro e w1 ⟨rfl, rfl⟩))
 go_ret
 exact ⟨rfl, rfl⟩
theorem four_zero {w : World} {g : Nat} {t : TypeId} (h : Blk w g t #[.int .i64 0, .int .i64 0, .int .i64 0, .int .i64 0]) (hg : g < w.heap.size) : IntRow w w.heap.size (some ⟨g, 0, none⟩) [0, 0, 0, 0] := by
 intro k x hx
 refine ⟨g, 0, rfl, hg, ?_⟩
 rw [Nat.zero_add]
 match k, hx with
 | 0, hx => cases hx; exact h.cell 0
 | 1, hx => cases hx; exact h.cell 1
 | 2, hx => cases hx; exact h.cell 2
 | 3, hx => cases hx; exact h.cell 3
theorem fits_zero (w : World) : Calls Tryz.prog 156 #[.agg #[.int .i64 0, .int .i64 0, .slice none 0 0, .slice none 0 0]] w (OkB w true) := by
 have hb : Betw 1024 [0, 0, 0, 0] = true := by decide
 have hI : IntRow ((w.alloc (Obj.cells #[.int .i64 0, .int .i64 0, .slice none 0 0, .slice none 0 0] 60)).alloc (Obj.cells #[.int .i64 0, .int .i64 0, .int .i64 0, .int .i64 0] 3)) ((w.alloc (Obj.cells #[.int .i64 0, .int .i64 0, .slice none 0 0, .slice none 0 0] 60)).alloc (Obj.cells #[.int .i64 0, .int .i64 0, .int .i64 0, .int .i64 0] 3)).heap.size (some ⟨w.heap.size + 1, 0, none⟩) [0, 0, 0, 0] := four_zero (Blk.new_ _ _ _ (by simp)) (by simp)
 have HB : Hid (Calls Tryz.prog 125 #[.int .i64 1024, .slice (some ⟨w.heap.size + 1, 0, none⟩) 4 4] ((w.alloc (Obj.cells #[.int .i64 0, .int .i64 0, .slice none 0 0, .slice none 0 0] 60)).alloc (Obj.cells #[.int .i64 0, .int .i64 0, .int .i64 0, .int .i64 0] 3)) fun e w' => e = .returned (.bool true) ∧ ((w.alloc (Obj.cells #[.int .i64 0, .int .i64 0, .slice none 0 0, .slice none 0 0] 60)).alloc (Obj.cells #[.int .i64 0, .int .i64 0, .int .i64 0, .int .i64 0] 3)) = w') := by
  have := say_betweenAll (cap := 4) hI (by decide) (by decide) 1024
  rw [hb] at this
  exact this
 clear hI
 clear hb
 go_enter Tryz.func156, Tryz.ntmps156
 go_wp2_with (first | (go_at_call 125; refine HB.out.mono ?_; rintro e w1 ⟨rfl, rfl⟩) | (go_at_call 181; refine (contains_noneE _ _ _).mono ?_; rintro e w1 ⟨rfl, rfl⟩) | (go_at_call 182; refine (contains_noneI _ _ _).mono ?_; rintro e w1 ⟨rfl, rfl⟩))
 go_ret
 exact ⟨rfl, ((Fr.refl _ _).alloc _).alloc _⟩
def chk1 (G D : Int) (L : List (Int × Int)) (last x : Int) : Int := if memberOf G x < 0 ∨ x ≤ last then 52 else if (memberOf G x, D) ∈ L then 0 else 53
section
variable {G D last x : Int} {L : List (Int × Int)}
end
structure Caught (w : World) (bc bl bs g m : Nat) (G D last : Int) (sl : Value) (L : List (Int × Int)) : Prop where
 c : Blk w bc 41 #[.int .i64 G, .int .i64 D, sl]
 l : Blk w bl 3 #[.int .i64 last]
 s : Blk w bs 47 #[.pointer (some ⟨g, 0, none⟩)]
 a : SealsAt w g m L
def chkErr (G D : Int) (L : List (Int × Int)) : Int → Nat → List Int → Option (List (ByteArray × Int) × Int)
 | _, _, [] => none
 | last, i, x :: r => if chk1 G D L last x = 0 then chkErr G D L x (i + 1) r else some ([((⟨#[115, 105, 103, 110, 101, 114]⟩ : ByteArray), (i : Int))], chk1 G D L last x)
section
variable {G D last : Int} {L : List (Int × Int)} {xs : List Int} {k : Nat} {x : Int}
end
def checkE (G D : Int) (L : List (Int × Int)) (xs : List Int) (need : Int) : Option (List (ByteArray × Int) × Int) :=
 match chkErr G D L (-1) 0 xs with
 | some e => some e
 | none => if need < 1 ∨ (xs.length : Int) < need then some ([((⟨#[99, 104, 101, 99, 107]⟩ : ByteArray), (xs.length : Int))], 51) else none
section
variable {G D need : Int} {L : List (Int × Int)} {xs : List Int}
theorem checkE_ok (hE : chkErr G D L (-1) 0 xs = none) (h : ¬ (need < 1 ∨ (xs.length : Int) < need)) : checkE G D L xs need = none := by
 simp only [checkE, hE, if_neg h]
end
def whoInts (G D : Int) (L : List (Int × Int)) : List Int := (whoTo G D L 10).map fun (i : Nat) => (i : Int)
theorem whoInts_length (G D : Int) (L : List (Int × Int)) : (whoInts G D L).length = (whoTo G D L 10).length := by simp [whoInts]
theorem IntRow.of_own {w : World} {base : Nat} {A : Option Addr} {n cap : Nat} {l : List Nat} (h : w.ownsRow base 3 1 (.slice A n cap) l.length (intVals l)) : IntRow w w.heap.size A (l.map fun (i : Nat) => (i : Int)) := by
 obtain ⟨A', cap', hv, _, hat⟩ := own_form h
 cases hv
 intro k x hx
 obtain ⟨b, hb, _, hc⟩ := hat k (.int .i64 x) (by
  rw [List.getElem?_map] at hx
  obtain ⟨i, hi, rfl⟩ := Option.map_eq_some_iff.1 hx
  simp [intVals, hi])
 exact ⟨b, 0, hb, World.block_lt_of_cell? w _ hc, by rw [Nat.zero_add]; exact hc⟩
theorem IntRow.take {w : World} {B : Nat} {A : Option Addr} {xs : List Int} (h : IntRow w B A xs) (n : Nat) : IntRow w B A (xs.take n) := by
 intro k x hx
 rw [List.getElem?_take] at hx
 split at hx
 ·exact h k x hx
 ·cases hx
def Made (w : World) (G D : Int) (L : List (Int × Int)) (need : Int) (e : Ending) (w' : World) : Prop :=
  Fr (fun _ => False) w w' ∧
  (((need < 1 ∨ ((whoInts G D L).length : Int) < need) ∧ e = .returned (.tuple #[.agg #[.int .i64 0, .int .i64 0, .slice none 0 0], errV [((⟨#[109, 97, 107, 101]⟩ : ByteArray), ((whoInts G D L).length : Int))] 51])) ∨
   (¬ (need < 1 ∨ ((whoInts G D L).length : Int) < need) ∧ ∃ A cap, e = .returned (.tuple #[.agg #[.int .i64 G, .int .i64 D, .slice A ((whoInts G D L).take need.toNat).length cap], .nilIface]) ∧ IntRow w' w'.heap.size A ((whoInts G D L).take need.toNat)))
theorem cert_Make {w : World} {g m : Nat} {L : List (Int × Int)} (hs : SealsAt w g m L) (G D need : Int) :
  Calls Tryz.prog 43 #[.pointer (some ⟨g, 0, none⟩), .int .i64 G, .int .i64 D, .int .i64 need] w (Made w G D L need) := by
 go_enter Tryz.func43, Tryz.ntmps43
 go_wp2_with fail
 have hf0 : Fr (fun _ => False) w (w.alloc (Obj.cells #[.int .i64 0, .int .i64 0, .slice none 0 0] 41)) := (Fr.refl _ _).alloc _
 refine (seals_Who (hs.fr hf0 id id) G D).mono ?_
 rintro e w1 ⟨v, rfl, hown, hf1⟩
 obtain ⟨A, cap, rfl, hcap, _⟩ := own_form hown
 have b1 : Blk w1 w.heap.size 41 #[.int .i64 0, .int .i64 0, .slice none 0 0] := (Blk.new _ _ _).fr hf1 id
 have c0 := b1.cell 0
 have c1 := b1.cell 1
 have c2 := b1.cell 2
 have z0 := b1.frozen 0
 have z1 := b1.frozen 1
 have z2 := b1.frozen 2
 have hf2 := hf0.then_ hf1
 by_cases hn : need < 1 ∨ ((whoTo G D L 10).length : Int) < need
 ·have HN := Lib.hid hn
  by_cases h1 : need < 1
  ·clear hn
   go_wp2_with (first
    | (go_at_call 71; refine (fault_Of _ rfl _).mono ?_; rintro e w' ⟨rfl, rfl⟩)
    | (go_at_call 70; refine (fault_Wrap _ _ _ _ _).mono ?_; rintro e w' ⟨rfl, rfl⟩))
   have b2 := ((b1.set_ 0 (.int .i64 0)).set_ 1 (.int .i64 0)).set_ 2 (.slice none 0 0)
   have d0 := b2.cell 0
   have d1 := b2.cell 1
   have d2 := b2.cell 2
   refine bodyPost_ret (v := .tuple #[.agg #[.int .i64 0, .int .i64 0, .slice none 0 0], errV [((⟨#[109, 97, 107, 101]⟩ : ByteArray), ((whoTo G D L 10).length : Int))] 51]) (by simp [results, Tryz.results43, go_sem, d0, d1, d2]) rfl ?_
   refine ⟨?_, .inl ⟨by rw [whoInts_length]; exact HN.out, by rw [whoInts_length]⟩⟩
   exact Fr.setCell (p := ⟨w.heap.size, 2, none⟩) (Fr.setCell (p := ⟨w.heap.size, 1, none⟩) (Fr.setCell (p := ⟨w.heap.size, 0, none⟩) hf2 (fun h => absurd h (Nat.lt_irrefl _)) _) (fun h => absurd h (Nat.lt_irrefl _)) _) (fun h => absurd h (Nat.lt_irrefl _)) _
  ·have h2 : ((whoTo G D L 10).length : Int) < need := by omega
   clear hn
   go_wp2_with (first
    | (go_at_call 71; refine (fault_Of _ rfl _).mono ?_; rintro e w' ⟨rfl, rfl⟩)
    | (go_at_call 70; refine (fault_Wrap _ _ _ _ _).mono ?_; rintro e w' ⟨rfl, rfl⟩))
   have b2 := ((b1.set_ 0 (.int .i64 0)).set_ 1 (.int .i64 0)).set_ 2 (.slice none 0 0)
   have d0 := b2.cell 0
   have d1 := b2.cell 1
   have d2 := b2.cell 2
   refine bodyPost_ret (v := .tuple #[.agg #[.int .i64 0, .int .i64 0, .slice none 0 0], errV [((⟨#[109, 97, 107, 101]⟩ : ByteArray), ((whoTo G D L 10).length : Int))] 51]) (by simp [results, Tryz.results43, go_sem, d0, d1, d2]) rfl ?_
   refine ⟨?_, .inl ⟨by rw [whoInts_length]; exact HN.out, by rw [whoInts_length]⟩⟩
   exact Fr.setCell (p := ⟨w.heap.size, 2, none⟩) (Fr.setCell (p := ⟨w.heap.size, 1, none⟩) (Fr.setCell (p := ⟨w.heap.size, 0, none⟩) hf2 (fun h => absurd h (Nat.lt_irrefl _)) _) (fun h => absurd h (Nat.lt_irrefl _)) _) (fun h => absurd h (Nat.lt_irrefl _)) _
 ·have HN := Lib.hid hn
  have h1 : ¬ need < 1 := by omega
  have h2 : ¬ ((whoTo G D L 10).length : Int) < need := by omega
  obtain ⟨n, rfl⟩ : ∃ n : Nat, need = n := ⟨need.toNat, by omega⟩
  have h3 : n ≤ (whoTo G D L 10).length := by omega
  have h4 : n ≤ cap := by omega
  have h5 : ¬ cap = 0 := by omega
  have hlen : ((whoInts G D L).take n).length = n := by rw [List.length_take, whoInts_length]; omega
  clear hn
  go_wp2_with fail
  have b2 := b1.set_ 0 (.int .i64 G)
  have b3 := b2.set_ 1 (.int .i64 D)
  have b4 := b3.set_ 2 (.slice A n cap)
  have d0 := b4.cell 0
  have d1 := b4.cell 1
  have d2 := b4.cell 2
  have o4 := own_setCell (own_setCell (own_setCell hown b1 (by decide) 0 (.int .i64 G)) b2 (by decide) 1 (.int .i64 D)) b3 (by decide) 2 (.slice A n cap)
  refine bodyPost_ret (v := .tuple #[.agg #[.int .i64 G, .int .i64 D, .slice A n cap], .nilIface]) (by simp [results, Tryz.results43, go_sem, d0, d1, d2]) rfl ?_
  refine ⟨?_, .inr ⟨by rw [whoInts_length]; exact HN.out, A, cap, ?_, ?_⟩⟩
  ·exact Fr.setCell (p := ⟨w.heap.size, 2, none⟩) (Fr.setCell (p := ⟨w.heap.size, 1, none⟩) (Fr.setCell (p := ⟨w.heap.size, 0, none⟩) hf2 (fun h => absurd h (Nat.lt_irrefl _)) _) (fun h => absurd h (Nat.lt_irrefl _)) _) (fun h => absurd h (Nat.lt_irrefl _)) _
  ·rw [Int.toNat_natCast, hlen]
  ·rw [Int.toNat_natCast]
   exact (IntRow.of_own o4).take n
def step64 (n c : Int) : Int := bits .or .i64 (wrap64 (n * 256)) (wrap64 c)
def spell64 (l : List Int) : Int := l.foldl step64 0
theorem spell_take {l : List Int} {k : Nat} {x : Int} (h : l[k]? = some x) : spell64 (l.take (k + 1)) = step64 (spell64 (l.take k)) x := by
 obtain ⟨hlt, rfl⟩ := List.getElem?_eq_some_iff.1 h
 rw [spell64, List.take_succ_eq_append_getElem hlt, List.foldl_append]
 rfl
def ReadOut (w : World) (g : Nat) (A : Option Addr) (bs : List Int) (V : Value → World → Prop) (Z : Value → Prop) (pos : Nat) (c : Int) (e : Ending) (w' : World) : Prop :=
 ∃ v p, e = .returned (.tuple #[v, .int .i64 c]) ∧ (c = 0 → V v w' ∧ p = pos) ∧ (c ≠ 0 → Z v) ∧ ReaderAt w' g A bs p none ∧ Fr (fun k => k = g) w w'
def IsInt (n : Int) (v : Value) (_ : World) : Prop := v = .int .i64 n
theorem reader_number {w : World} {g : Nat} {A : Option Addr} {bs : List Int} {pos : Nat} (h : ReaderAt w g A bs pos none) (hl : bs.length ≤ 1099511627776) :
  Calls Tryz.prog 134 #[.pointer (some ⟨g, 0, none⟩)] w (ReadOut w g A bs (IsInt (spell64 ((bs.drop pos).take 8))) (fun v => v = .int .i64 0) (pos + 8) (if bs.length - pos < 8 then 21 else 0)) := by
 by_cases h8 : bs.length - pos < 8
 ·rw [if_pos h8]
  go_enter Tryz.func134, Tryz.ntmps134
  go_wp2_with fail
  refine (reader_cut h hl 8).mono ?_
  rintro e w' (⟨_, rfl, rfl⟩ | ⟨h2, _⟩)
  ·go_wp2_with fail
   go_loopw [6, 16] (fun n i wr => i = .int .i64 0 ∧ n = .int .i64 0 ∧ w = wr) (fun _ _ _ => 0)
   case atStart => exact ⟨rfl, rfl, rfl⟩
   case round =>
    obtain ⟨rfl, rfl, rfl⟩ := hrel
    go_wp2
    refine bodyPost_ret (v := .tuple #[.int .i64 0, .int .i64 21]) (by simp [results, Tryz.results134, go_sem]) rfl ?_
    exact ⟨_, pos, rfl, (fun h => by cases h), (fun _ => rfl), h, Fr.refl _ _⟩
  ·omega
 ·rw [if_neg h8]
  go_enter Tryz.func134, Tryz.ntmps134
  go_wp2_with fail
  refine (reader_cut h hl 8).mono ?_
  rintro e w' (⟨h2, _⟩ | ⟨_, A', rfl, hr, h1, hf⟩)
  ·omega
  ·generalize hxs : (bs.drop pos).take 8 = xs at hr
   have HXS := Lib.hid hxs
   have hx8 : xs.length = 8 := by rw [← hxs, List.length_take, List.length_drop]; omega
   have HX8 := Lib.hid hx8
   clear hxs hx8
   go_wp2_with fail
   go_loopw [6, 16] (fun n i wr => ∃ k : Nat, k ≤ 8 ∧ i = .int .i64 k ∧ n = .int .i64 (spell64 (xs.take k)) ∧ w' = wr) (fun _ i _ => 8 - (intOf i).toNat)
   case atStart => exact ⟨0, by omega, rfl, rfl, rfl⟩
   case round =>
    obtain ⟨k, hk, rfl, rfl, rfl⟩ := hrel
    by_cases hlt : k < 8
    ·obtain ⟨x, hx⟩ : ∃ x, xs[k]? = some x := ⟨xs[k]'(by have := HX8.out; omega), List.getElem?_eq_getElem (by have := HX8.out; omega)⟩
     obtain ⟨b, o, rfl, _, hc⟩ := hr k x hx
     have HX := Lib.hid hx
     clear hr hx
     go_wp2_with fail
     go_roundw
     case rel => exact ⟨k + 1, by omega, by go_num, by rw [spell_take HX.out]; rfl, by trivial⟩
     case measure => simp [intOf]; omega
    ·obtain rfl : k = 8 := by omega
     rw [List.take_of_length_le (by have := HX8.out; omega)]
     go_wp2
     refine bodyPost_ret (v := .tuple #[.int .i64 (spell64 xs), .int .i64 0]) (by simp [results, Tryz.results134, go_sem]) rfl ?_
     exact ⟨_, _, rfl, fun _ => ⟨by rw [IsInt, HXS.out], rfl⟩, (fun h => absurd rfl h), h1, hf⟩
def countC (bs : List Int) (pos : Nat) (most : Int) : Int := if bs.length - pos < 4 then 21 else if spell64 ((bs.drop pos).take 4) > most then 2 else 0
theorem reader_count {w : World} {g : Nat} {A : Option Addr} {bs : List Int} {pos : Nat} (h : ReaderAt w g A bs pos none) (hl : bs.length ≤ 1099511627776) (most : Int) :
  Calls Tryz.prog 164 #[.pointer (some ⟨g, 0, none⟩), .int .i64 most] w (ReadOut w g A bs (IsInt (spell64 ((bs.drop pos).take 4))) (fun v => ∃ n, v = .int .i64 n) (pos + 4) (countC bs pos most)) := by
 by_cases h8 : bs.length - pos < 4
 ·have hC : countC bs pos most = 21 := by rw [countC, if_pos h8]
  rw [hC]
  go_enter Tryz.func164, Tryz.ntmps164
  go_wp2_with fail
  refine (reader_cut h hl 4).mono ?_
  rintro e w' (⟨_, rfl, rfl⟩ | ⟨h2, _⟩)
  ·go_wp2_with fail
   go_loopw [8, 18] (fun n i wr => i = .int .i64 0 ∧ n = .int .i64 0 ∧ w = wr) (fun _ _ _ => 0)
   case atStart => exact ⟨rfl, rfl, rfl⟩
   case round =>
    obtain ⟨rfl, rfl, rfl⟩ := hrel
    go_wp2
    refine bodyPost_ret (v := .tuple #[.int .i64 0, .int .i64 21]) (by simp [results, Tryz.results164, go_sem]) rfl ?_
    exact ⟨_, pos, rfl, (fun h => by cases h), (fun _ => ⟨0, rfl⟩), h, Fr.refl _ _⟩
  ·omega
 ·go_enter Tryz.func164, Tryz.ntmps164
  go_wp2_with fail
  refine (reader_cut h hl 4).mono ?_
  rintro e w' (⟨h2, _⟩ | ⟨_, A', rfl, hr, h1, hf⟩)
  ·omega
  ·generalize hxs : (bs.drop pos).take 4 = xs at hr
   have HXS := Lib.hid hxs
   have hx8 : xs.length = 4 := by rw [← hxs, List.length_take, List.length_drop]; omega
   have HX8 := Lib.hid hx8
   clear hxs hx8
   go_wp2_with fail
   go_loopw [8, 18] (fun n i wr => ∃ k : Nat, k ≤ 4 ∧ i = .int .i64 k ∧ n = .int .i64 (spell64 (xs.take k)) ∧ w' = wr) (fun _ i _ => 4 - (intOf i).toNat)
   case atStart => exact ⟨0, by omega, rfl, rfl, rfl⟩
   case round =>
    obtain ⟨k, hk, rfl, rfl, rfl⟩ := hrel
    by_cases hlt : k < 4
    ·obtain ⟨x, hx⟩ : ∃ x, xs[k]? = some x := ⟨xs[k]'(by have := HX8.out; omega), List.getElem?_eq_getElem (by have := HX8.out; omega)⟩
     obtain ⟨b, o, rfl, _, hc⟩ := hr k x hx
     have HX := Lib.hid hx
     clear hr hx
     go_wp2_with fail
     go_roundw
     case rel => exact ⟨k + 1, by omega, by go_num, by rw [spell_take HX.out]; rfl, by trivial⟩
     case measure => simp [intOf]; omega
    ·obtain rfl : k = 4 := by omega
     rw [List.take_of_length_le (by have := HX8.out; omega)]
     have H8 := Lib.hid h8
     clear h8
     by_cases hm : spell64 xs > most
     ·have hC : Hid (countC bs pos most = 2) := by show _ = _; rw [countC, if_neg H8.out, HXS.out, if_pos hm]
      go_wp2
      refine bodyPost_ret (v := .tuple #[.int .i64 (spell64 xs), .int .i64 2]) (by simp [results, Tryz.results164, go_sem]) rfl ?_
      exact ⟨_, _, by rw [hC.out], (fun h => by rw [hC.out] at h; cases h), (fun _ => ⟨_, rfl⟩), h1, hf⟩
     ·have hC : Hid (countC bs pos most = 0) := by show _ = _; rw [countC, if_neg H8.out, HXS.out, if_neg hm]
      go_wp2
      refine bodyPost_ret (v := .tuple #[.int .i64 (spell64 xs), .int .i64 0]) (by simp [results, Tryz.results164, go_sem]) rfl ?_
      exact ⟨_, _, by rw [hC.out], fun _ => ⟨by rw [IsInt, HXS.out], rfl⟩, (fun _ => ⟨_, rfl⟩), h1, hf⟩
def Bytes8 (l : List Int) : Prop := ∀ x ∈ l, 0 ≤ x ∧ x < 256
theorem or_low (a c : Int) (ha : a % 256 = 0) (h0 : 0 ≤ c) (h1 : c < 256) : bits .or .i64 a c = wrap64 (a + c) := by
 have e : bits .or .i64 a c = IntKind.i64.wrap (((BitVec.ofInt 64 a) ||| (BitVec.ofInt 64 c)).toNat : Int) := rfl
 rw [e]
 obtain ⟨c', rfl⟩ := Int.eq_ofNat_of_zero_le h0
 have hc : c' < 256 := by omega
 have h2 : ((BitVec.ofInt 64 a) ||| (BitVec.ofInt 64 (c' : Int))).toNat = (a % 18446744073709551616).toNat + c' := by
  rw [BitVec.toNat_or, BitVec.toNat_ofInt, BitVec.toNat_ofInt]
  have e1 : ((c' : Int) % ((2 ^ 64 : Nat) : Int)).toNat = c' := by omega
  have e2 : (a % ((2 ^ 64 : Nat) : Int)).toNat = 2 ^ 8 * ((a % 18446744073709551616).toNat / 256) := by
   have : (a % 18446744073709551616) % 256 = 0 := by omega
   omega
  rw [e1, e2, ← Nat.two_pow_add_eq_or_of_lt (by omega)]
  omega
 rw [h2]
 have h3 : IntKind.i64.wrap (((a % 18446744073709551616).toNat + c' : Nat) : Int) = wrap64 (((a % 18446744073709551616).toNat + c' : Nat) : Int) := by
  rw [IntKind.wrap_i64, wrap64]
 rw [h3]
 unfold wrap64
 omega
theorem step64_eq (n c : Int) (h0 : 0 ≤ c) (h1 : c < 256) : step64 n c = wrap64 (n * 256 + c) := by
 unfold step64
 have e : wrap64 c = c := by unfold wrap64; omega
 rw [e, or_low _ _ (by unfold wrap64; omega) h0 h1]
 unfold wrap64
 omega
def beI (l : List Int) : Int := l.foldl (fun n c => n * 256 + c) 0
theorem spell_from (l : List Int) (h : Bytes8 l) : ∀ n m : Int, n = wrap64 m → l.foldl step64 n = wrap64 (l.foldl (fun n c => n * 256 + c) m) := by
 induction l with
 | nil => intro n m h; exact h
 | cons c r ih =>
  intro n m e
  obtain ⟨h0, h1⟩ := h c List.mem_cons_self
  simp only [List.foldl_cons]
  refine ih (fun x hx => h x (List.mem_cons_of_mem _ hx)) _ _ ?_
  rw [step64_eq _ _ h0 h1, e]
  unfold wrap64
  omega
theorem spell_eq {l : List Int} (h : Bytes8 l) : spell64 l = wrap64 (beI l) := spell_from l h 0 0 (by unfold wrap64; omega)
theorem num8_eq (n : Int) : num8 n = [n / 72057594037927936 % 256, n / 281474976710656 % 256, n / 1099511627776 % 256, n / 4294967296 % 256, n / 16777216 % 256, n / 65536 % 256, n / 256 % 256, n % 256] := by
 simp [num8, List.range, List.range.loop]
theorem num8_bytes (n : Int) : Bytes8 (num8 n) := by
 intro x hx
 rw [num8_eq] at hx
 simp only [List.mem_cons, List.not_mem_nil, or_false] at hx
 omega
theorem count4_bytes (n : Int) : Bytes8 (count4 n) := by
 intro x hx
 simp only [count4, List.mem_cons, List.not_mem_nil, or_false] at hx
 omega
theorem spell_num8 {n : Int} (h0 : -9223372036854775808 ≤ n) (h1 : n ≤ 9223372036854775807) : spell64 (num8 n) = n := by
 rw [spell_eq (num8_bytes n), num8_eq]
 simp only [beI, List.foldl_cons, List.foldl_nil]
 unfold wrap64
 omega
theorem spell_count4 {n : Int} (h0 : 0 ≤ n) (h1 : n < 4294967296) : spell64 (count4 n) = n := by
 rw [spell_eq (count4_bytes n)]
 simp only [beI, count4, List.foldl_cons, List.foldl_nil]
 unfold wrap64
 omega
theorem num8_spell {l : List Int} (h : Bytes8 l) (hl : l.length = 8) : num8 (spell64 l) = l := by
 match l, hl, h with
 | [a, b, c, d, e, f, g, i], _, h =>
  have ha := h a (by simp)
  have hb := h b (by simp)
  have hc := h c (by simp)
  have hd := h d (by simp)
  have he := h e (by simp)
  have hf := h f (by simp)
  have hg := h g (by simp)
  have hi := h i (by simp)
  rw [spell_eq h, num8_eq]
  simp only [beI, List.foldl_cons, List.foldl_nil, wrap64, List.cons.injEq, and_true]
  refine ⟨?_, ?_, ?_, ?_, ?_, ?_, ?_, ?_⟩ <;> omega
theorem spell4_bound {l : List Int} (h : Bytes8 l) (hl : l.length = 4) : 0 ≤ spell64 l ∧ spell64 l < 4294967296 := by
 match l, hl, h with
 | [a, b, c, d], _, h =>
  have ha := h a (by simp)
  have hb := h b (by simp)
  have hc := h c (by simp)
  have hd := h d (by simp)
  rw [spell_eq h]
  simp only [beI, List.foldl_cons, List.foldl_nil, wrap64]
  omega
theorem count4_spell {l : List Int} (h : Bytes8 l) (hl : l.length = 4) : count4 (spell64 l) = l := by
 match l, hl, h with
 | [a, b, c, d], _, h =>
  have ha := h a (by simp)
  have hb := h b (by simp)
  have hc := h c (by simp)
  have hd := h d (by simp)
  rw [spell_eq h]
  simp only [beI, List.foldl_cons, List.foldl_nil, wrap64, count4, List.cons.injEq, and_true]
  refine ⟨?_, ?_, ?_, ?_⟩ <;> omega
def inA (A : Option Addr) (k : Nat) : Prop := ∃ o, A = some ⟨k, o, none⟩
def IsText (A : Option Addr) (xs : List Int) (v : Value) (w : World) : Prop := ∃ A' cap, v = .slice A' xs.length cap ∧ ByteRow w (inA A) A' xs
def textN (bs : List Int) (pos : Nat) : Nat := (spell64 ((bs.drop pos).take 4)).toNat
def textC (bs : List Int) (pos : Nat) : Int := if countC bs pos 65536 ≠ 0 then countC bs pos 65536 else if bs.length - (pos + 4) < textN bs pos then 21 else 0
def textX (bs : List Int) (pos : Nat) : List Int := (bs.drop (pos + 4)).take (textN bs pos)
theorem Bytes8.part {bs : List Int} (h : Bytes8 bs) (a b : Nat) : Bytes8 ((bs.drop a).take b) := fun x hx => h x (List.mem_of_mem_drop (List.mem_of_mem_take hx))
theorem countC_ok {bs : List Int} {pos : Nat} {most : Int} (h : countC bs pos most = 0) : 4 ≤ bs.length - pos ∧ spell64 ((bs.drop pos).take 4) ≤ most := by
 unfold countC at h
 split at h
 ·cases h
 ·split at h
  ·cases h
  ·omega
theorem reader_text {w : World} {g : Nat} {A : Option Addr} {bs : List Int} {pos : Nat} (h : ReaderAt w g A bs pos none) (hl : bs.length ≤ 1099511627776) (h8 : Bytes8 bs) :
  Calls Tryz.prog 137 #[.pointer (some ⟨g, 0, none⟩)] w (ReadOut w g A bs (IsText A (textX bs pos)) (fun v => v = .slice none 0 0) (pos + 4 + textN bs pos) (textC bs pos)) := by
 go_enter Tryz.func137, Tryz.ntmps137
 go_wp2_with fail
 refine (reader_count h hl 65536).mono ?_
 rintro e w1 ⟨v, p, rfl, hv, hz, h1, hf1⟩
 by_cases hc : countC bs pos 65536 = 0
 ·obtain ⟨rfl, rfl⟩ := hv hc
  obtain ⟨h4, hm⟩ := countC_ok hc
  have hb4 := spell4_bound (h8.part pos 4) (by rw [List.length_take, List.length_drop]; omega)
  have hn : spell64 ((bs.drop pos).take 4) = (textN bs pos : Int) := by unfold textN; omega
  rw [hc, hn]
  have HC : Hid (textC bs pos = if bs.length - (pos + 4) < textN bs pos then 21 else 0) := by show _ = _; rw [textC, if_neg (by simp [hc])]
  clear hn hb4 hm hc hv
  go_wp2_with fail
  refine (reader_cut h1 hl (textN bs pos)).mono ?_
  rintro e w2 (⟨h2, rfl, rfl⟩ | ⟨h2, A2, rfl, hr2, h3, hf3⟩)
  ·have hc21 : Hid (textC bs pos = 21) := by show _ = _; rw [HC.out, if_pos h2]
   go_wp2
   refine bodyPost_ret (v := .tuple #[.slice none 0 0, .int .i64 21]) (by simp [results, Tryz.results137, go_sem]) rfl ?_
   exact ⟨_, pos + 4, by rw [hc21.out], (fun h => by rw [hc21.out] at h; cases h), (fun _ => rfl), h1, hf1⟩
  ·have hc0 : Hid (textC bs pos = 0) := by show _ = _; rw [HC.out, if_neg (by omega)]
   have hlx : Hid ((textX bs pos).length = textN bs pos) := by show _ = _; rw [textX, List.length_take, List.length_drop]; omega
   go_wp2
   refine bodyPost_ret (v := .tuple #[.slice A2 (textN bs pos) (textN bs pos), .int .i64 0]) (by simp [results, Tryz.results137, go_sem]) rfl ?_
   exact ⟨_, pos + 4 + textN bs pos, by rw [hc0.out], fun _ => ⟨⟨A2, textN bs pos, by rw [hlx.out], hr2⟩, rfl⟩, (fun h => absurd hc0.out h), h3, hf1.trans hf3 (fun _ _ h => h)⟩
 ·have hc1 : (countC bs pos 65536 != 0) = true := by simpa using hc
  have hcc : Hid (textC bs pos = countC bs pos 65536) := by show _ = _; rw [textC, if_pos hc]
  have HC := Lib.hid hc
  obtain ⟨n0, rfl⟩ := hz HC.out
  clear hc hv
  go_wp2
  refine bodyPost_ret (v := .tuple #[.slice none 0 0, .int .i64 (countC bs pos 65536)]) (by simp [results, Tryz.results137, go_sem]) rfl ?_
  exact ⟨_, p, by rw [hcc.out], (fun h => absurd (hcc.out ▸ h) HC.out), (fun _ => rfl), h1, hf1⟩
def NextOut (w : World) (g : Nat) (A : Option Addr) (bs : List Int) (V : Value → World → Prop) (pos' : Nat) (z : Value) (s : ByteArray) (pos : Nat) (c : Int) (e : Ending) (w' : World) : Prop :=
 (c = 0 ∧ ∃ v, e = .returned v ∧ V v w' ∧ ReaderAt w' g A bs pos' none ∧ Fr (fun k => k = g) w w') ∨
 (c ≠ 0 ∧ e = .returned z ∧ (∃ p, ReaderAt w' g A bs p (some ([(s, (pos : Int))], c))) ∧ Fr (fun k => k = g) w w')
theorem ReaderAt.wrong {w : World} {g : Nat} {A : Option Addr} {bs : List Int} {pos : Nat} (h : ReaderAt w g A bs pos none) (err : Option (List (ByteArray × Int) × Int)) : ReaderAt (w.setCell ⟨g, 2, none⟩ (errO err)) g A bs pos err := by
 obtain ⟨A', cap, h1, h2, hb⟩ := h.blk
 exact ⟨⟨A', cap, h1, h2, hb.set_ 2 (errO err)⟩, h.row.fr ((Fr.refl (fun k => k = g) w).setCell (p := ⟨g, 2, none⟩) (fun _ => rfl) _) (fun k ⟨o, e⟩ => h.ne k o e), h.le, h.ne, fun k o e => by simpa using h.alt k o e⟩
theorem next_bad_Int {w : World} {g : Nat} {A : Option Addr} {bs : List Int} {pos : Nat} {er : List (ByteArray × Int) × Int} (h : ReaderAt w g A bs pos (some er)) (s : ByteArray) (f : Value) :
  Calls Tryz.prog 162 #[.pointer (some ⟨g, 0, none⟩), .string s, f] w fun e w' => e = .returned (.int .i64 0) ∧ w = w' := by
 obtain ⟨A', cap, _, _, hb⟩ := h.blk
 obtain ⟨t, u, hu⟩ := errO_some er
 have c2 : w.cell? ⟨g, 2, none⟩ = some (.iface t u) := by rw [← hu]; exact hb.cell 2
 clear hb
 go_enter Tryz.func162, Tryz.ntmps162
 go_wp2
 go_ret
 exact ⟨rfl, rfl⟩
theorem next_Int {w : World} {g : Nat} {A : Option Addr} {bs : List Int} {pos pos' : Nat} {V : Value → World → Prop} {Z : Value → Prop} {c : Int} (h : ReaderAt w g A bs pos none) (s : ByteArray) (b1 b2 : Nat)
  (hof : Calls Tryz.prog 163 (#[] ++ #[.pointer (some ⟨b1, 0, none⟩), .pointer (some ⟨b2, 0, none⟩)]) w (ReadOut w g A bs V Z pos' c)) :
  Calls Tryz.prog 162 #[.pointer (some ⟨g, 0, none⟩), .string s, .func (.func 163) #[] #[.pointer (some ⟨b1, 0, none⟩), .pointer (some ⟨b2, 0, none⟩)]] w (NextOut w g A bs V pos' (.int .i64 0) s pos c) := by
 obtain ⟨A', cap, _, _, hb⟩ := h.blk
 have c1 : w.cell? ⟨g, 1, none⟩ = some (.int .i64 pos) := hb.cell 1
 have c2 : w.cell? ⟨g, 2, none⟩ = some .nilIface := hb.cell 2
 clear hb
 go_enter Tryz.func162, Tryz.ntmps162
 go_wp2_with fail
 refine hof.mono ?_
 rintro e w1 ⟨v, p, rfl, hv, _, h1, hf1⟩
 by_cases hc : c = 0
 ·subst hc
  obtain ⟨hv1, rfl⟩ := hv rfl
  go_wp2
  go_ret
  exact .inl ⟨rfl, v, rfl, hv1, h1, hf1⟩
 ·have hc1 : (c != 0) = true := by simpa using hc
  have hc2 : (c == 0) = false := by simpa using hc
  have HC := Lib.hid hc
  obtain ⟨A2, cap2, _, _, hb2⟩ := h1.blk
  have z2 := hb2.frozen 2
  have d2 : w1.cell? ⟨g, 2, none⟩ = some .nilIface := hb2.cell 2
  obtain ⟨t, u, hu⟩ := errV_iface [(s, (pos : Int))] c
  have HU : Hid (errO (some ([(s, (pos : Int))], c)) = .iface t u) := hu
  clear hc hv hb2
  go_wp2_with (first
   | (go_at_call 71; refine (fault_Of c hc2 _).mono ?_; rintro e w' ⟨rfl, rfl⟩)
   | (go_at_call 70; refine (fault_Wrap [] c _ _ _).mono ?_; rintro e w' ⟨rfl, rfl⟩; rw [hu]))
  go_ret
  refine .inr ⟨HC.out, rfl, ⟨p, ?_⟩, hf1.setCell (p := ⟨g, 2, none⟩) (fun _ => rfl) _⟩
  rw [← HU.out]
  exact h1.wrong _
theorem next_bad_Num {w : World} {g : Nat} {A : Option Addr} {bs : List Int} {pos : Nat} {er : List (ByteArray × Int) × Int} (h : ReaderAt w g A bs pos (some er)) (s : ByteArray) (f : Value) :
  Calls Tryz.prog 133 #[.pointer (some ⟨g, 0, none⟩), .string s, f] w fun e w' => e = .returned (.int .i64 0) ∧ w = w' := by
 obtain ⟨A', cap, _, _, hb⟩ := h.blk
 obtain ⟨t, u, hu⟩ := errO_some er
 have c2 : w.cell? ⟨g, 2, none⟩ = some (.iface t u) := by rw [← hu]; exact hb.cell 2
 clear hb
 go_enter Tryz.func133, Tryz.ntmps133
 go_wp2
 go_ret
 exact ⟨rfl, rfl⟩
theorem next_Num {w : World} {g : Nat} {A : Option Addr} {bs : List Int} {pos pos' : Nat} {V : Value → World → Prop} {Z : Value → Prop} {c : Int} (h : ReaderAt w g A bs pos none) (s : ByteArray) (b1 : Nat)
  (hof : Calls Tryz.prog 134 (#[.pointer (some ⟨b1, 0, none⟩)] ++ #[]) w (ReadOut w g A bs V Z pos' c)) :
  Calls Tryz.prog 133 #[.pointer (some ⟨g, 0, none⟩), .string s, .func (.func 134) #[.pointer (some ⟨b1, 0, none⟩)] #[]] w (NextOut w g A bs V pos' (.int .i64 0) s pos c) := by
 obtain ⟨A', cap, _, _, hb⟩ := h.blk
 have c1 : w.cell? ⟨g, 1, none⟩ = some (.int .i64 pos) := hb.cell 1
 have c2 : w.cell? ⟨g, 2, none⟩ = some .nilIface := hb.cell 2
 clear hb
 go_enter Tryz.func133, Tryz.ntmps133
 go_wp2_with fail
 refine hof.mono ?_
 rintro e w1 ⟨v, p, rfl, hv, _, h1, hf1⟩
 by_cases hc : c = 0
 ·subst hc
  obtain ⟨hv1, rfl⟩ := hv rfl
  go_wp2
  go_ret
  exact .inl ⟨rfl, v, rfl, hv1, h1, hf1⟩
 ·have hc1 : (c != 0) = true := by simpa using hc
  have hc2 : (c == 0) = false := by simpa using hc
  have HC := Lib.hid hc
  obtain ⟨A2, cap2, _, _, hb2⟩ := h1.blk
  have z2 := hb2.frozen 2
  have d2 : w1.cell? ⟨g, 2, none⟩ = some .nilIface := hb2.cell 2
  obtain ⟨t, u, hu⟩ := errV_iface [(s, (pos : Int))] c
  have HU : Hid (errO (some ([(s, (pos : Int))], c)) = .iface t u) := hu
  clear hc hv hb2
  go_wp2_with (first
   | (go_at_call 71; refine (fault_Of c hc2 _).mono ?_; rintro e w' ⟨rfl, rfl⟩)
   | (go_at_call 70; refine (fault_Wrap [] c _ _ _).mono ?_; rintro e w' ⟨rfl, rfl⟩; rw [hu]))
  go_ret
  refine .inr ⟨HC.out, rfl, ⟨p, ?_⟩, hf1.setCell (p := ⟨g, 2, none⟩) (fun _ => rfl) _⟩
  rw [← HU.out]
  exact h1.wrong _
theorem next_bad_Text {w : World} {g : Nat} {A : Option Addr} {bs : List Int} {pos : Nat} {er : List (ByteArray × Int) × Int} (h : ReaderAt w g A bs pos (some er)) (s : ByteArray) (f : Value) :
  Calls Tryz.prog 136 #[.pointer (some ⟨g, 0, none⟩), .string s, f] w fun e w' => e = .returned (.slice none 0 0) ∧ w = w' := by
 obtain ⟨A', cap, _, _, hb⟩ := h.blk
 obtain ⟨t, u, hu⟩ := errO_some er
 have c2 : w.cell? ⟨g, 2, none⟩ = some (.iface t u) := by rw [← hu]; exact hb.cell 2
 clear hb
 go_enter Tryz.func136, Tryz.ntmps136
 go_wp2
 go_ret
 exact ⟨rfl, rfl⟩
theorem next_Text {w : World} {g : Nat} {A : Option Addr} {bs : List Int} {pos pos' : Nat} {V : Value → World → Prop} {Z : Value → Prop} {c : Int} (h : ReaderAt w g A bs pos none) (s : ByteArray) (b1 : Nat)
  (hof : Calls Tryz.prog 137 (#[.pointer (some ⟨b1, 0, none⟩)] ++ #[]) w (ReadOut w g A bs V Z pos' c)) :
  Calls Tryz.prog 136 #[.pointer (some ⟨g, 0, none⟩), .string s, .func (.func 137) #[.pointer (some ⟨b1, 0, none⟩)] #[]] w (NextOut w g A bs V pos' (.slice none 0 0) s pos c) := by
 obtain ⟨A', cap, _, _, hb⟩ := h.blk
 have c1 : w.cell? ⟨g, 1, none⟩ = some (.int .i64 pos) := hb.cell 1
 have c2 : w.cell? ⟨g, 2, none⟩ = some .nilIface := hb.cell 2
 clear hb
 go_enter Tryz.func136, Tryz.ntmps136
 go_wp2_with fail
 refine hof.mono ?_
 rintro e w1 ⟨v, p, rfl, hv, _, h1, hf1⟩
 by_cases hc : c = 0
 ·subst hc
  obtain ⟨hv1, rfl⟩ := hv rfl
  go_wp2
  go_ret
  exact .inl ⟨rfl, v, rfl, hv1, h1, hf1⟩
 ·have hc1 : (c != 0) = true := by simpa using hc
  have hc2 : (c == 0) = false := by simpa using hc
  have HC := Lib.hid hc
  obtain ⟨A2, cap2, _, _, hb2⟩ := h1.blk
  have z2 := hb2.frozen 2
  have d2 : w1.cell? ⟨g, 2, none⟩ = some .nilIface := hb2.cell 2
  obtain ⟨t, u, hu⟩ := errV_iface [(s, (pos : Int))] c
  have HU : Hid (errO (some ([(s, (pos : Int))], c)) = .iface t u) := hu
  clear hc hv hb2
  go_wp2_with (first
   | (go_at_call 71; refine (fault_Of c hc2 _).mono ?_; rintro e w' ⟨rfl, rfl⟩)
   | (go_at_call 70; refine (fault_Wrap [] c _ _ _).mono ?_; rintro e w' ⟨rfl, rfl⟩; rw [hu]))
  go_ret
  refine .inr ⟨HC.out, rfl, ⟨p, ?_⟩, hf1.setCell (p := ⟨g, 2, none⟩) (fun _ => rfl) _⟩
  rw [← HU.out]
  exact h1.wrong _
theorem next_bad_Nums {w : World} {g : Nat} {A : Option Addr} {bs : List Int} {pos : Nat} {er : List (ByteArray × Int) × Int} (h : ReaderAt w g A bs pos (some er)) (s : ByteArray) (f : Value) :
  Calls Tryz.prog 184 #[.pointer (some ⟨g, 0, none⟩), .string s, f] w fun e w' => e = .returned (.slice none 0 0) ∧ w = w' := by
 obtain ⟨A', cap, _, _, hb⟩ := h.blk
 obtain ⟨t, u, hu⟩ := errO_some er
 have c2 : w.cell? ⟨g, 2, none⟩ = some (.iface t u) := by rw [← hu]; exact hb.cell 2
 clear hb
 go_enter Tryz.func184, Tryz.ntmps184
 go_wp2
 go_ret
 exact ⟨rfl, rfl⟩
theorem next_Nums {w : World} {g : Nat} {A : Option Addr} {bs : List Int} {pos pos' : Nat} {V : Value → World → Prop} {Z : Value → Prop} {c : Int} (h : ReaderAt w g A bs pos none) (s : ByteArray) (b1 b2 : Nat)
  (hof : Calls Tryz.prog 187 (#[] ++ #[.pointer (some ⟨b1, 0, none⟩), .pointer (some ⟨b2, 0, none⟩)]) w (ReadOut w g A bs V Z pos' c)) :
  Calls Tryz.prog 184 #[.pointer (some ⟨g, 0, none⟩), .string s, .func (.func 187) #[] #[.pointer (some ⟨b1, 0, none⟩), .pointer (some ⟨b2, 0, none⟩)]] w (NextOut w g A bs V pos' (.slice none 0 0) s pos c) := by
 obtain ⟨A', cap, _, _, hb⟩ := h.blk
 have c1 : w.cell? ⟨g, 1, none⟩ = some (.int .i64 pos) := hb.cell 1
 have c2 : w.cell? ⟨g, 2, none⟩ = some .nilIface := hb.cell 2
 clear hb
 go_enter Tryz.func184, Tryz.ntmps184
 go_wp2_with fail
 refine hof.mono ?_
 rintro e w1 ⟨v, p, rfl, hv, _, h1, hf1⟩
 by_cases hc : c = 0
 ·subst hc
  obtain ⟨hv1, rfl⟩ := hv rfl
  go_wp2
  go_ret
  exact .inl ⟨rfl, v, rfl, hv1, h1, hf1⟩
 ·have hc1 : (c != 0) = true := by simpa using hc
  have hc2 : (c == 0) = false := by simpa using hc
  have HC := Lib.hid hc
  obtain ⟨A2, cap2, _, _, hb2⟩ := h1.blk
  have z2 := hb2.frozen 2
  have d2 : w1.cell? ⟨g, 2, none⟩ = some .nilIface := hb2.cell 2
  obtain ⟨t, u, hu⟩ := errV_iface [(s, (pos : Int))] c
  have HU : Hid (errO (some ([(s, (pos : Int))], c)) = .iface t u) := hu
  clear hc hv hb2
  go_wp2_with (first
   | (go_at_call 71; refine (fault_Of c hc2 _).mono ?_; rintro e w' ⟨rfl, rfl⟩)
   | (go_at_call 70; refine (fault_Wrap [] c _ _ _).mono ?_; rintro e w' ⟨rfl, rfl⟩; rw [hu]))
  go_ret
  refine .inr ⟨HC.out, rfl, ⟨p, ?_⟩, hf1.setCell (p := ⟨g, 2, none⟩) (fun _ => rfl) _⟩
  rw [← HU.out]
  exact h1.wrong _
def Rd (w : World) (g : Nat) (A : Option Addr) (bs : List Int) (V : Value → World → Prop) (pos' : Nat) (z : Value) (s : ByteArray) (pos : Nat) (c : Int) (err : Option (List (ByteArray × Int) × Int)) (e : Ending) (w' : World) : Prop :=
 match err with
 | none => NextOut w g A bs V pos' z s pos c e w'
 | some er => e = .returned z ∧ ReaderAt w' g A bs pos (some er) ∧ Fr (fun _ => False) w w'
theorem NextOut.before {w w1 w' : World} {g : Nat} {A : Option Addr} {bs : List Int} {V : Value → World → Prop} {pos' : Nat} {z : Value} {s : ByteArray} {pos : Nat} {c : Int} {e : Ending} (h : NextOut w1 g A bs V pos' z s pos c e w') (hf : Fr (fun _ => False) w w1) : NextOut w g A bs V pos' z s pos c e w' := by
 have hf1 : Fr (fun k => k = g) w w1 := hf.mono (fun _ _ hx => hx.elim)
 rcases h with ⟨h1, v, h2, h3, h4, h5⟩ | ⟨h1, h2, h3, h4⟩
 ·exact .inl ⟨h1, v, h2, h3, h4, hf1.trans h5 (fun _ _ h => h)⟩
 ·exact .inr ⟨h1, h2, h3, hf1.trans h4 (fun _ _ h => h)⟩
theorem NextOut.ending {w w' : World} {g : Nat} {A : Option Addr} {bs : List Int} {V : Value → World → Prop} {pos' : Nat} {z : Value} {s : ByteArray} {pos : Nat} {c : Int} {e : Ending} (h : NextOut w g A bs V pos' z s pos c e w') : ∃ v, e = .returned v ∧ NextOut w g A bs V pos' z s pos c (.returned v) w' := by
 rcases h with ⟨h1, v, rfl, h3, h4, h5⟩ | ⟨h1, rfl, h3, h4⟩
 ·exact ⟨v, rfl, .inl ⟨h1, v, rfl, h3, h4, h5⟩⟩
 ·exact ⟨z, rfl, .inr ⟨h1, rfl, h3, h4⟩⟩
def numC (bs : List Int) (pos : Nat) : Int := if bs.length - pos < 8 then 21 else 0
def numX (bs : List Int) (pos : Nat) : Int := spell64 ((bs.drop pos).take 8)
def intC (bs : List Int) (pos : Nat) (most : Int) : Int := if numC bs pos ≠ 0 then numC bs pos else if numX bs pos < 0 then 23 else if numX bs pos > most then 2 else 0
theorem reader_Int1 {w : World} {g : Nat} {A : Option Addr} {bs : List Int} {pos : Nat} (h : ReaderAt w g A bs pos none) (hl : bs.length ≤ 1099511627776) (b1 b2 : Nat) (most : Int) (hx : w.cell? ⟨b1, 0, none⟩ = some (.pointer (some ⟨g, 0, none⟩))) (hy : w.cell? ⟨b2, 0, none⟩ = some (.int .i64 most)) (hg : b2 ≠ g) :
  Calls Tryz.prog 163 #[.pointer (some ⟨b1, 0, none⟩), .pointer (some ⟨b2, 0, none⟩)] w (ReadOut w g A bs (IsInt (numX bs pos)) (fun _ => True) (pos + 8) (intC bs pos most)) := by
 go_enter Tryz.func163, Tryz.ntmps163
 go_wp2_with fail
 refine (reader_number h hl).mono ?_
 rintro e w1 ⟨v, p, rfl, hv, _, h1, hf1⟩
 have hy1 := hf1.cell_some hy hg
 have HN : Hid (numC bs pos = if bs.length - pos < 8 then 21 else 0) := rfl
 have hn : (if bs.length - pos < 8 then (21 : Int) else 0) = numC bs pos := rfl
 rw [hn] at hv ⊢
 by_cases hc : numC bs pos = 0
 ·obtain ⟨hv1, rfl⟩ := hv hc
  obtain rfl : v = .int .i64 (numX bs pos) := hv1
  rw [hc]
  have HC : Hid (intC bs pos most = if numX bs pos < 0 then 23 else if numX bs pos > most then 2 else 0) := by show _ = _; rw [intC, if_neg (by simp [hc])]
  clear hv hc hn
  by_cases h0 : numX bs pos < 0
  ·have HC2 : Hid (intC bs pos most = 23) := by show _ = _; rw [HC.out, if_pos h0]
   go_wp2
   refine bodyPost_ret (v := .tuple #[.int .i64 (numX bs pos), .int .i64 23]) (by simp [results, Tryz.results163, go_sem]) rfl ?_
   exact ⟨_, pos + 8, by rw [HC2.out], (fun h => by rw [HC2.out] at h; cases h), fun _ => trivial, h1, hf1⟩
  ·by_cases h2 : numX bs pos > most
   ·have HC2 : Hid (intC bs pos most = 2) := by show _ = _; rw [HC.out, if_neg h0, if_pos h2]
    go_wp2
    refine bodyPost_ret (v := .tuple #[.int .i64 (numX bs pos), .int .i64 2]) (by simp [results, Tryz.results163, go_sem]) rfl ?_
    exact ⟨_, pos + 8, by rw [HC2.out], (fun h => by rw [HC2.out] at h; cases h), fun _ => trivial, h1, hf1⟩
   ·have HC2 : Hid (intC bs pos most = 0) := by show _ = _; rw [HC.out, if_neg h0, if_neg h2]
    go_wp2
    refine bodyPost_ret (v := .tuple #[.int .i64 (numX bs pos), .int .i64 0]) (by simp [results, Tryz.results163, go_sem]) rfl ?_
    exact ⟨_, pos + 8, by rw [HC2.out], (fun _ => ⟨rfl, rfl⟩), fun _ => trivial, h1, hf1⟩
 ·have hc1 : (numC bs pos != 0) = true := by simpa using hc
  have HC : Hid (intC bs pos most = numC bs pos) := by show _ = _; rw [intC, if_pos hc]
  have HZ := Lib.hid hc
  clear hv hc hn
  go_wp2
  refine bodyPost_ret (v := .tuple #[v, .int .i64 (numC bs pos)]) (by simp [results, Tryz.results163, go_sem]) rfl ?_
  exact ⟨v, p, by rw [HC.out], (fun h => absurd (HC.out ▸ h) HZ.out), fun _ => trivial, h1, hf1⟩
theorem reader_Int {w : World} {g : Nat} {A : Option Addr} {bs : List Int} {pos : Nat} {err : Option (List (ByteArray × Int) × Int)} (h : ReaderAt w g A bs pos err) (hl : bs.length ≤ 1099511627776) (most : Int) :
  Calls Tryz.prog 135 #[.pointer (some ⟨g, 0, none⟩), .int .i64 most] w (Rd w g A bs (IsInt (numX bs pos)) (pos + 8) (.int .i64 0) (⟨#[105, 110, 116]⟩ : ByteArray) pos (intC bs pos most) err) := by
 have hf0 : Fr (fun _ => False) w ((w.alloc (Obj.cells #[.pointer (some ⟨g, 0, none⟩)] 196)).alloc (Obj.cells #[.int .i64 most] 3)) := ((Fr.refl _ _).alloc _).alloc _
 have h1 := h.fr hf0 id (fun _ _ _ => id)
 have hx : ((w.alloc (Obj.cells #[.pointer (some ⟨g, 0, none⟩)] 196)).alloc (Obj.cells #[.int .i64 most] 3)).cell? ⟨w.heap.size, 0, none⟩ = some (.pointer (some ⟨g, 0, none⟩)) := ((Blk.new w 196 #[.pointer (some ⟨g, 0, none⟩)]).alloc _).cell 0
 have hy : ((w.alloc (Obj.cells #[.pointer (some ⟨g, 0, none⟩)] 196)).alloc (Obj.cells #[.int .i64 most] 3)).cell? ⟨w.heap.size + 1, 0, none⟩ = some (.int .i64 most) := (Blk.new_ (w.alloc (Obj.cells #[.pointer (some ⟨g, 0, none⟩)] 196)) 3 #[.int .i64 most] (n := w.heap.size + 1) (by simp)).cell 0
 have hg : w.heap.size + 1 ≠ g := by
  obtain ⟨_, _, _, _, hb⟩ := h.blk
  have := hb.lt
  omega
 cases err with
 | some er =>
  go_enter Tryz.func135, Tryz.ntmps135
  go_wp2_with fail
  refine (next_bad_Int h1 _ _).mono ?_
  rintro e w1 ⟨rfl, rfl⟩
  go_wp2
  go_ret
  exact ⟨rfl, h1, hf0⟩
 | none =>
  go_enter Tryz.func135, Tryz.ntmps135
  go_wp2_with fail
  refine (next_Int h1 (⟨#[105, 110, 116]⟩ : ByteArray) w.heap.size (w.heap.size + 1) (reader_Int1 h1 hl _ _ most hx hy hg)).mono ?_
  intro e w1 hn
  obtain ⟨v, rfl, hn1⟩ := (hn.before hf0).ending
  clear hn
  go_wp2
  go_ret
  exact hn1
theorem reader_Num {w : World} {g : Nat} {A : Option Addr} {bs : List Int} {pos : Nat} {err : Option (List (ByteArray × Int) × Int)} (h : ReaderAt w g A bs pos err) (hl : bs.length ≤ 1099511627776) (h8 : Bytes8 bs) :
  Calls Tryz.prog 103 #[.pointer (some ⟨g, 0, none⟩)] w (Rd w g A bs (IsInt (numX bs pos)) (pos + 8) (.int .i64 0) (⟨#[110, 117, 109]⟩ : ByteArray) pos (numC bs pos) err) := by
 cases err with
 | some er =>
  go_enter Tryz.func103, Tryz.ntmps103
  go_wp2_with fail
  refine (next_bad_Num h _ _).mono ?_
  rintro e w1 ⟨rfl, rfl⟩
  go_wp2
  go_ret
  exact ⟨rfl, h, Fr.refl _ _⟩
 | none =>
  go_enter Tryz.func103, Tryz.ntmps103
  go_wp2_with fail
  refine (next_Num h (⟨#[110, 117, 109]⟩ : ByteArray) g (reader_number h hl)).mono ?_
  intro e w1 hn
  obtain ⟨v, rfl, hn1⟩ := hn.ending
  clear hn
  go_wp2
  go_ret
  exact hn1
theorem reader_Text {w : World} {g : Nat} {A : Option Addr} {bs : List Int} {pos : Nat} {err : Option (List (ByteArray × Int) × Int)} (h : ReaderAt w g A bs pos err) (hl : bs.length ≤ 1099511627776) (h8 : Bytes8 bs) :
  Calls Tryz.prog 106 #[.pointer (some ⟨g, 0, none⟩)] w (Rd w g A bs (IsText A (textX bs pos)) (pos + 4 + textN bs pos) (.slice none 0 0) (⟨#[116, 101, 120, 116]⟩ : ByteArray) pos (textC bs pos) err) := by
 cases err with
 | some er =>
  go_enter Tryz.func106, Tryz.ntmps106
  go_wp2_with fail
  refine (next_bad_Text h _ _).mono ?_
  rintro e w1 ⟨rfl, rfl⟩
  go_wp2
  go_ret
  exact ⟨rfl, h, Fr.refl _ _⟩
 | none =>
  go_enter Tryz.func106, Tryz.ntmps106
  go_wp2_with fail
  refine (next_Text h (⟨#[116, 101, 120, 116]⟩ : ByteArray) g (reader_text h hl h8)).mono ?_
  intro e w1 hn
  obtain ⟨v, rfl, hn1⟩ := hn.ending
  clear hn
  go_wp2
  go_ret
  exact hn1
def endE (bs : List Int) (pos : Nat) (err : Option (List (ByteArray × Int) × Int)) : Option (List (ByteArray × Int) × Int) :=
 match err with
 | some er => some er
 | none => if pos < bs.length then some ([((⟨#[101, 110, 100]⟩ : ByteArray), (pos : Int))], 22) else none
def Ended (w : World) (bs : List Int) (pos : Nat) (err : Option (List (ByteArray × Int) × Int)) (e : Ending) (w' : World) : Prop := e = .returned (errO (endE bs pos err)) ∧ Fr (fun _ => False) w w'
theorem reader_End {w : World} {g : Nat} {A : Option Addr} {bs : List Int} {pos : Nat} {err : Option (List (ByteArray × Int) × Int)} (h : ReaderAt w g A bs pos err) (hl : bs.length ≤ 1099511627776) :
  Calls Tryz.prog 110 #[.pointer (some ⟨g, 0, none⟩)] w (Ended w bs pos err) := by
 obtain ⟨A', cap, _, _, hb⟩ := h.blk
 have c0 : w.cell? ⟨g, 0, none⟩ = some (.slice A' (bs.length - pos) cap) := hb.cell 0
 have c1 : w.cell? ⟨g, 1, none⟩ = some (.int .i64 pos) := hb.cell 1
 cases err with
 | some er =>
  obtain ⟨t, u, hu⟩ := errO_some er
  have HU : Hid (errO (endE bs pos (some er)) = .iface t u) := hu
  have c2 : w.cell? ⟨g, 2, none⟩ = some (.iface t u) := by rw [← hu]; exact hb.cell 2
  clear hb hu
  go_enter Tryz.func110, Tryz.ntmps110
  go_wp2
  go_ret
  exact ⟨by rw [HU.out]; rfl, Fr.refl _ _⟩
 | none =>
  have c2 : w.cell? ⟨g, 2, none⟩ = some .nilIface := hb.cell 2
  clear hb
  by_cases hp : pos < bs.length
  ·have hp1 : ((bs.length - pos : Nat) : Int) > 0 := by omega
   have HE : Hid (endE bs pos none = some ([((⟨#[101, 110, 100]⟩ : ByteArray), (pos : Int))], 22)) := by show _ = _; rw [endE, if_pos hp]
   go_enter Tryz.func110, Tryz.ntmps110
   go_wp2_with fail
   go_quiet ((first | (go_at_call 71; exact quiet_left (fault_Of 22 rfl _)) | (go_at_call 70; exact quiet_left (fault_Wrap _ _ _ _ _))))
   go_wp2
   go_ret
   exact ⟨by rw [HE.out]; rfl, (Fr.refl _ _).drewN _⟩
  ·have hp1 : ¬ ((bs.length - pos : Nat) : Int) > 0 := by omega
   have HE : Hid (endE bs pos none = none) := by show _ = _; rw [endE, if_neg hp]
   go_enter Tryz.func110, Tryz.ntmps110
   go_wp2
   go_ret
   exact ⟨by rw [HE.out]; rfl, Fr.refl _ _⟩
def rowRun {α : Type} (X : Nat → α) (C : Nat → Int) (N : Nat → Nat) : Nat → Nat → List α × Nat × Int
 | 0, p => ([], p, 0)
 | n + 1, p => if C p ≠ 0 then ([], p, C p) else (X p :: (rowRun X C N n (N p)).1, (rowRun X C N n (N p)).2)
theorem rowRun_stop {α : Type} {X : Nat → α} {C : Nat → Int} {N : Nat → Nat} {n p : Nat} (h : C p ≠ 0) : (rowRun X C N (n + 1) p).2.2 = C p := by rw [rowRun, if_pos h]
theorem rowRun_on {α : Type} {X : Nat → α} {C : Nat → Int} {N : Nat → Nat} {n p : Nat} (h : C p = 0) : rowRun X C N (n + 1) p = (X p :: (rowRun X C N n (N p)).1, (rowRun X C N n (N p)).2) := by rw [rowRun, if_neg (by simp [h])]
def numsRun (bs : List Int) (n p : Nat) : List Int × Nat × Int := rowRun (numX bs) (numC bs) (fun p => p + 8) n p
def numsC (bs : List Int) (pos : Nat) : Int := if countC bs pos 1024 ≠ 0 then countC bs pos 1024 else (numsRun bs (textN bs pos) (pos + 4)).2.2
def numsX (bs : List Int) (pos : Nat) : List Int := (numsRun bs (textN bs pos) (pos + 4)).1
def numsP (bs : List Int) (pos : Nat) : Nat := (numsRun bs (textN bs pos) (pos + 4)).2.1
def num64V (xs : List Int) : List Value := xs.map fun x => .int .i64 x
def IsNums (base : Nat) (xs : List Int) (v : Value) (w : World) : Prop := w.ownsRow base 2 1 v xs.length (num64V xs)
theorem int64_info : (Tryz.prog.info? 2).map (fun i => (i.zero, i.size, i.bytes)) = some (some (.int .i64 0), 1, 8) := by kernel_rfl
theorem NumRow.of_own {w : World} {base : Nat} {e : TypeId} {v : Value} {xs : List Int} (h : w.ownsRow base e 1 v xs.length (num64V xs)) : ∃ A cap, v = .slice A xs.length cap ∧ NumRow w (fun k => v.ownBlock = some k) A xs := by
 obtain ⟨A, cap, hv, _, hat⟩ := own_form h
 refine ⟨A, cap, hv, ?_⟩
 intro k x hx
 obtain ⟨b, hb, _, hc⟩ := hat k (.int .i64 x) (by simp [num64V, hx])
 exact ⟨b, 0, hb, by rw [hv, hb]; rfl, by rw [Nat.zero_add]; exact hc⟩
def Mid {α : Type} (run : Nat → Nat → List α × Nat × Int) (T p0 m p : Nat) (xs : List α) (c : Int) : Prop :=
 (c = 0 → run T p0 = (xs ++ (run m p).1, (run m p).2)) ∧ (c ≠ 0 → (run T p0).2.2 = c)
theorem row_int64_1 {w : World} {g : Nat} {A : Option Addr} {bs : List Int} {pos : Nat} (h : ReaderAt w g A bs pos none) (hl : bs.length ≤ 1099511627776) (h8 : Bytes8 bs) (b1 b2 : Nat) (hx : w.cell? ⟨b1, 0, none⟩ = some (.pointer (some ⟨g, 0, none⟩))) (hy : w.cell? ⟨b2, 0, none⟩ = some (.func (.func 134) #[.pointer (some ⟨g, 0, none⟩)] #[])) (hg1 : b1 ≠ g) (hg2 : b2 ≠ g) :
  Calls Tryz.prog 187 #[.pointer (some ⟨b1, 0, none⟩), .pointer (some ⟨b2, 0, none⟩)] w (ReadOut w g A bs (IsNums w.heap.size (numsX bs pos)) (fun _ => True) (numsP bs pos) (numsC bs pos)) := by
 have hg0 : g < w.heap.size := by obtain ⟨_, _, _, _, hb⟩ := h.blk; exact hb.lt
 have hA0 := h.alt
 go_enter Tryz.func187, Tryz.ntmps187
 go_wp2_with fail
 refine (reader_count h hl 1024).mono ?_
 rintro e w1 ⟨v, p, rfl, hv, hz, h1, hf1⟩
 by_cases hc : countC bs pos 1024 = 0
 ·obtain ⟨rfl, rfl⟩ := hv hc
  obtain ⟨h4, hm⟩ := countC_ok hc
  have hb4 := spell4_bound (h8.part pos 4) (by rw [List.length_take, List.length_drop]; omega)
  have hn : spell64 ((bs.drop pos).take 4) = (textN bs pos : Int) := by unfold textN; omega
  have hT : textN bs pos ≤ 1024 := by omega
  rw [hc, hn]
  have HC : Hid (numsC bs pos = (numsRun bs (textN bs pos) (pos + 4)).2.2) := by show _ = _; rw [numsC, if_neg (by simp [hc])]
  have HX : Hid (numsX bs pos = (numsRun bs (textN bs pos) (pos + 4)).1) := rfl
  have HP : Hid (numsP bs pos = (numsRun bs (textN bs pos) (pos + 4)).2.1) := rfl
  generalize textN bs pos = T at hT HC HX HP ⊢
  clear hn hb4 hm hc hv hz h4
  go_wp2_with fail
  go_loopw [4, 5, 6] (fun n e out wr => ∃ (m p : Nat) (xs : List Int) (c : Int), n = .int .i64 m ∧ e = .int .i64 c ∧ xs.length + m = T ∧ ReaderAt wr g A bs p none ∧ Fr (fun k => k = g) w wr ∧ IsNums w.heap.size xs out wr ∧ Mid (numsRun bs) T (pos + 4) m p xs c) (fun n _ _ _ => (intOf n).toNat)
  case atStart => exact ⟨T, pos + 4, [], 0, rfl, rfl, by simp, h1, hf1, World.ownsRow_nil _ _ _ _, fun _ => by simp, fun h => absurd rfl h⟩
  case round =>
   obtain ⟨m, p, xs, c, rfl, rfl, hlen, hr, hf, hown, hmid⟩ := hrel
   have HM := Lib.hid hmid
   clear hmid
   have hx1 := hf.cell_some hx hg1
   have hy1 := hf.cell_some hy hg2
   cases m with
   | zero =>
    clear hx hy hx1 hy1
    by_cases hc0 : c = 0
    ·subst hc0
     have e0 := HM.out.1 rfl
     have eC : Hid (numsC bs pos = 0) := by show _ = _; rw [HC.out, e0]; rfl
     have eX : Hid (numsX bs pos = xs) := by show _ = _; rw [HX.out, e0]; exact List.append_nil _
     have eP : Hid (numsP bs pos = p) := by show _ = _; rw [HP.out, e0]; rfl
     clear e0
     go_wp2
     refine bodyPost_ret (v := .tuple #[u6, .int .i64 0]) (by simp [results, Tryz.results187, go_sem]) rfl ?_
     exact ⟨u6, p, by rw [eC.out], fun _ => ⟨by rw [eX.out]; exact hown, eP.out.symm⟩, fun _ => trivial, hr, hf⟩
    ·have HN := Lib.hid hc0
     have hcb : (c == 0) = false := by simpa using hc0
     have eC : Hid (numsC bs pos = c) := by show _ = _; rw [HC.out]; exact HM.out.2 hc0
     clear hc0
     go_wp2
     refine bodyPost_ret (v := .tuple #[u6, .int .i64 c]) (by simp [results, Tryz.results187, go_sem]) rfl ?_
     exact ⟨u6, p, by rw [eC.out], fun h => absurd (eC.out ▸ h) HN.out, fun _ => trivial, hr, hf⟩
   | succ m =>
    have hm0 : ((m + 1 : Nat) : Int) > 0 := by omega
    by_cases hc0 : c = 0
    ·subst hc0
     have e0 := HM.out.1 rfl
     by_cases hp : numC bs p = 0
     ·have HM2 : Hid (Mid (numsRun bs) T (pos + 4) m (p + 8) (xs ++ [numX bs p]) 0) := by
       refine ⟨fun _ => ?_, fun h => absurd rfl h⟩
       rw [e0, numsRun, rowRun_on hp]
       simp only [List.append_assoc, List.singleton_append]
       rfl
      have HPP := Lib.hid hp
      clear e0 hp
      have hv0 : Hid (spell64 ((bs.drop p).take 8) = numX bs p) := rfl
      go_wp2_with (first
       | (go_at_call 134; refine (reader_number hr hl).mono ?_; rintro e w2 ⟨v2, p2, rfl, hv2, hz2, h2, hf2⟩; obtain ⟨e2, rfl⟩ := hv2 HPP.out; obtain rfl : v2 = .int .i64 (numX bs p) := e2; rw [show (if bs.length - p < 8 then (21 : Int) else 0) = 0 from HPP.out]; clear hv2 hz2; have hown2 := own_fr hown hf2 (fun k hk e => by have := own_ge hown k hk; omega))
       | (at_builtin; refine wpList_append1 _ rfl _ _ _ rfl w.heap.size 2 (.int .i64 0) 8 Tryz.underlying132 int64_info rfl u6 xs.length (num64V xs) rfl (hown2.alloc _) w2.heap.size (.int .i64 (numX bs p)) rfl ?_ rfl (by omega) (by omega) ?_ ?_; (· simp); (· have := hf.size; have := hf2.size; simp; omega); intro g3 c3 w3 hown3 hf3))
      go_roundw
      case rel =>
       have hf12 := hf.trans hf2 (fun _ _ h => h)
       have hfb : Fr (fun k => u6.ownBlock = some k) w2 w3 := ((Fr.refl (fun k => u6.ownBlock = some k) w2).alloc _).trans hf3 (fun _ _ h => h)
       have hf13 := hf12.own hown hfb (Nat.le_refl _)
       exact ⟨m, p + 8, xs ++ [numX bs p], 0, by go_num, rfl, by simp; omega, h2.fr hfb (fun e => by have := own_ge hown _ e; omega) (fun k o e1 e2 => by have := own_ge hown _ e2; have := hA0 k o e1; omega), hf13, by simpa [IsNums, num64V] using hown3, HM2.out⟩
      case measure => simp [intOf]
     ·have HM2 : ∀ q, Hid (Mid (numsRun bs) T (pos + 4) m q (xs ++ [0]) (numC bs p)) := by
       intro q
       refine ⟨fun h => absurd h hp, fun _ => ?_⟩
       rw [e0, numsRun]
       exact rowRun_stop hp
      have HPP := Lib.hid hp
      clear e0 hp
      go_wp2_with (first
       | (go_at_call 134; refine (reader_number hr hl).mono ?_; rintro e w2 ⟨v2, p2, rfl, hv2, hz2, h2, hf2⟩; obtain rfl := hz2 HPP.out; rw [show (if bs.length - p < 8 then (21 : Int) else 0) = numC bs p from rfl]; clear hv2 hz2; have hown2 := own_fr hown hf2 (fun k hk e => by have := own_ge hown k hk; omega))
       | (at_builtin; refine wpList_append1 _ rfl _ _ _ rfl w.heap.size 2 (.int .i64 0) 8 Tryz.underlying132 int64_info rfl u6 xs.length (num64V xs) rfl (hown2.alloc _) w2.heap.size (.int .i64 (0)) rfl ?_ rfl (by omega) (by omega) ?_ ?_; (· simp); (· have := hf.size; have := hf2.size; simp; omega); intro g3 c3 w3 hown3 hf3))
      go_roundw
      case rel =>
       have hf12 := hf.trans hf2 (fun _ _ h => h)
       have hfb : Fr (fun k => u6.ownBlock = some k) w2 w3 := ((Fr.refl (fun k => u6.ownBlock = some k) w2).alloc _).trans hf3 (fun _ _ h => h)
       have hf13 := hf12.own hown hfb (Nat.le_refl _)
       exact ⟨m, p2, xs ++ [0], numC bs p, by go_num, rfl, by simp; omega, h2.fr hfb (fun e => by have := own_ge hown _ e; omega) (fun k o e1 e2 => by have := own_ge hown _ e2; have := hA0 k o e1; omega), hf13, by simpa [IsNums, num64V] using hown3, (HM2 p2).out⟩
      case measure => simp [intOf]
    ·have HN := Lib.hid hc0
     have hcb : (c == 0) = false := by simpa using hc0
     have eC : Hid (numsC bs pos = c) := by show _ = _; rw [HC.out]; exact HM.out.2 hc0
     clear hc0 hx hy hx1 hy1
     go_wp2
     refine bodyPost_ret (v := .tuple #[u6, .int .i64 c]) (by simp [results, Tryz.results187, go_sem]) rfl ?_
     exact ⟨u6, p, by rw [eC.out], fun h => absurd (eC.out ▸ h) HN.out, fun _ => trivial, hr, hf⟩
 ·have hc1 : (countC bs pos 1024 == 0) = false := by simpa using hc
  have hcc : Hid (numsC bs pos = countC bs pos 1024) := by show _ = _; rw [numsC, if_pos hc]
  have HC := Lib.hid hc
  obtain ⟨n0, rfl⟩ := hz HC.out
  clear hc hv hz hx hy
  go_wp2_with fail
  go_loopw [4, 5, 6] (fun n e out wr => n = .int .i64 n0 ∧ e = .int .i64 (countC bs pos 1024) ∧ w1 = wr) (fun _ _ _ _ => 0)
  case atStart => exact ⟨rfl, rfl, rfl⟩
  case round =>
   obtain ⟨rfl, rfl, rfl⟩ := hrel
   by_cases hn0 : n0 > 0
   all_goals
    go_wp2
    refine bodyPost_ret (v := .tuple #[u6, .int .i64 (countC bs pos 1024)]) (by simp [results, Tryz.results187, go_sem]) rfl ?_
    exact ⟨u6, p, by rw [hcc.out], fun h => absurd (hcc.out ▸ h) HC.out, fun _ => trivial, h1, hf1⟩
theorem NextOut.imp {w w' : World} {g : Nat} {A : Option Addr} {bs : List Int} {V V' : Value → World → Prop} {pos' : Nat} {z : Value} {s : ByteArray} {pos : Nat} {c : Int} {e : Ending} (h : NextOut w g A bs V pos' z s pos c e w') (hV : ∀ v w, V v w → V' v w) : NextOut w g A bs V' pos' z s pos c e w' := by
 rcases h with ⟨h1, v, h2, h3, h4, h5⟩ | h
 ·exact .inl ⟨h1, v, h2, hV _ _ h3, h4, h5⟩
 ·exact .inr h
theorem wire_row_int64 (w : World) (g : Nat) : Calls Tryz.prog 185 #[.pointer (some ⟨g, 0, none⟩), .func (.func 134) #[.pointer (some ⟨g, 0, none⟩)] #[]] w fun e w' => e = .returned (.func (.func 187) #[] #[.pointer (some ⟨w.heap.size, 0, none⟩), .pointer (some ⟨w.heap.size + 1, 0, none⟩)]) ∧ w' = (w.alloc (.cells #[.pointer (some ⟨g, 0, none⟩)] 196)).alloc (.cells #[.func (.func 134) #[.pointer (some ⟨g, 0, none⟩)] #[]] 225) := by
 go_enter Tryz.func185, Tryz.ntmps185
 go_wp2
 go_ret
 exact ⟨rfl, rfl⟩
theorem reader_Nums {w : World} {g : Nat} {A : Option Addr} {bs : List Int} {pos : Nat} {err : Option (List (ByteArray × Int) × Int)} (h : ReaderAt w g A bs pos err) (hl : bs.length ≤ 1099511627776) (h8 : Bytes8 bs) :
  Calls Tryz.prog 175 #[.pointer (some ⟨g, 0, none⟩)] w (Rd w g A bs (IsNums w.heap.size (numsX bs pos)) (numsP bs pos) (.slice none 0 0) (⟨#[110, 117, 109, 115]⟩ : ByteArray) pos (numsC bs pos) err) := by
 have hf0 : Fr (fun _ => False) w ((w.alloc (Obj.cells #[.pointer (some ⟨g, 0, none⟩)] 196)).alloc (Obj.cells #[.func (.func 134) #[.pointer (some ⟨g, 0, none⟩)] #[]] 225)) := ((Fr.refl _ _).alloc _).alloc _
 have h1 := h.fr hf0 id (fun _ _ _ => id)
 have hx : ((w.alloc (Obj.cells #[.pointer (some ⟨g, 0, none⟩)] 196)).alloc (Obj.cells #[.func (.func 134) #[.pointer (some ⟨g, 0, none⟩)] #[]] 225)).cell? ⟨w.heap.size, 0, none⟩ = some (.pointer (some ⟨g, 0, none⟩)) := ((Blk.new w 196 #[.pointer (some ⟨g, 0, none⟩)]).alloc _).cell 0
 have hy : ((w.alloc (Obj.cells #[.pointer (some ⟨g, 0, none⟩)] 196)).alloc (Obj.cells #[.func (.func 134) #[.pointer (some ⟨g, 0, none⟩)] #[]] 225)).cell? ⟨w.heap.size + 1, 0, none⟩ = some (.func (.func 134) #[.pointer (some ⟨g, 0, none⟩)] #[]) := (Blk.new_ (w.alloc (Obj.cells #[.pointer (some ⟨g, 0, none⟩)] 196)) 225 #[.func (.func 134) #[.pointer (some ⟨g, 0, none⟩)] #[]] (n := w.heap.size + 1) (by simp)).cell 0
 have hg : g < w.heap.size := by obtain ⟨_, _, _, _, hb⟩ := h.blk; exact hb.lt
 have hg1 : w.heap.size ≠ g := by omega
 have hg2 : w.heap.size + 1 ≠ g := by omega
 cases err with
 | some er =>
  go_enter Tryz.func175, Tryz.ntmps175
  go_wp2_with (first
   | (go_at_call 185; refine (wire_row_int64 _ _).mono ?_; rintro e w1 ⟨rfl, rfl⟩)
   | (go_at_call 184; refine (next_bad_Nums h1 _ _).mono ?_; rintro e w1 ⟨rfl, rfl⟩))
  go_ret
  exact ⟨rfl, h1, hf0⟩
 | none =>
  go_enter Tryz.func175, Tryz.ntmps175
  go_wp2_with (first
   | (go_at_call 185; refine (wire_row_int64 _ _).mono ?_; rintro e w1 ⟨rfl, rfl⟩)
   | (go_at_call 184; refine (next_Nums h1 (⟨#[110, 117, 109, 115]⟩ : ByteArray) w.heap.size (w.heap.size + 1) (row_int64_1 h1 hl h8 _ _ hx hy hg1 hg2)).mono ?_; intro e w1 hn; obtain ⟨v, rfl, hn1⟩ := (hn.before hf0).ending; clear hn))
  go_ret
  exact hn1.imp (fun v w h => own_base h (by simp; omega))
theorem own_ne_own {w : World} {b b' : Nat} {e e' : TypeId} {z z' : Nat} {v v' : Value} {n n' : Nat} {xs xs' : List Value} (h : w.ownsRow b e z v n xs) (h' : w.ownsRow b' e' z' v' n' xs') (hne : e ≠ e') : ∀ k, v.ownBlock = some k → v'.ownBlock ≠ some k := by
 intro k hk hk'
 rcases h.2 with ⟨rfl, _⟩ | ⟨g, cap, cur, rfl, _, hg, _⟩
 ·cases hk
 rcases h'.2 with ⟨rfl, _⟩ | ⟨g', cap', cur', rfl, _, hg', _⟩
 ·cases hk'
 cases hk
 cases hk'
 rw [hg] at hg'
 injection hg' with hg'
 injection hg' with _ ht
 exact hne ht
def putErr (xs : List Int) : Option (List (ByteArray × Int) × Int) := if xs.length ≤ 1024 then none else some ([((⟨#[99, 101, 114, 116]⟩ : ByteArray), 0), ((⟨#[119, 114, 105, 116, 101]⟩ : ByteArray), 16)], 2)
def putB (G D : Int) (xs : List Int) : List Int := if xs.length ≤ 1024 then num8 G ++ num8 D ++ numsB xs else []
def PutOut (w : World) (G D : Int) (xs : List Int) (e : Ending) (w' : World) : Prop :=
 ∃ v, e = .returned (.tuple #[v, errO (putErr xs)]) ∧ Own8 w' w.heap.size v (putB G D xs) ∧ Fr (fun _ => False) w w'
theorem cert_Put {w : World} {B : Nat} {A : Option Addr} {cap : Nat} {xs : List Int} (hr : IntRow w B A xs) (hB : B ≤ w.heap.size) (hlen : xs.length ≤ 100000) (G D : Int) :
  Calls Tryz.prog 151 #[.agg #[.int .i64 G, .int .i64 D, .slice A xs.length cap]] w (PutOut w G D xs) := by
 have b0 := (Blk.new w 41 #[.int .i64 G, .int .i64 D, .slice A xs.length cap]).alloc (Obj.cells #[.slice none 0 0, .nilIface] 194)
 have hf0 : Fr (fun _ => False) w ((w.alloc (Obj.cells #[.int .i64 G, .int .i64 D, .slice A xs.length cap] 41)).alloc (Obj.cells #[.slice none 0 0, .nilIface] 194)) := ((Fr.refl _ _).alloc _).alloc _
 have hW : WriterAt ((w.alloc (Obj.cells #[.int .i64 G, .int .i64 D, .slice A xs.length cap] 41)).alloc (Obj.cells #[.slice none 0 0, .nilIface] 194)) (w.heap.size + 1) w.heap.size (.slice none 0 0) [] none := ⟨Blk.new_ _ _ _ (by simp), Own8.nil _ _⟩
 go_enter Tryz.func151, Tryz.ntmps151
 go_wp2_with fail
 refine (writer_Num hW (by simp; omega) (by simp) G).mono ?_
 rintro e w1 ⟨v1, rfl, hW1, hf1, hk1⟩
 have hW1 : WriterAt w1 (w.heap.size + 1) w.heap.size v1 (num8 G) none := hW1
 have hne0 : ∀ {v : Value} {ys : List Int} {w' : World}, Own8 w' w.heap.size v ys → Blk w' w.heap.size 41 #[.int .i64 G, .int .i64 D, .slice A xs.length cap] → ¬ (w.heap.size = w.heap.size + 1 ∨ v.ownBlock = some w.heap.size) := fun h1 h2 h => h.elim (fun h => by omega) (fun h => h1.ne_blk h2 (by decide) h)
 have b1 := b0.fr hf1 (hne0 (Own8.nil _ _) b0)
 have hf1' : Fr (fun _ => False) w w1 := hf0.trans hf1 (fun k hk h => by rcases h with h | h; (· omega); (· cases h))
 have c1 := b1.cell 1
 have hsz1 := hf1'.size
 clear hW hf0 hf1 hk1 b0
 go_wp2_with fail
 refine (writer_Num hW1 hsz1 (by rw [num8_length]; omega) D).mono ?_
 rintro e w2 ⟨v2, rfl, hW2, hf2, hk2⟩
 have hW2 : WriterAt w2 (w.heap.size + 1) w.heap.size v2 (num8 G ++ num8 D) none := hW2
 have b2 := b1.fr hf2 (hne0 hW1.own b1)
 have hf2' : Fr (fun _ => False) w w2 := hf1'.trans hf2 (fun k hk h => by rcases h with h | h; (· omega); (· have := own_ge hW1.own k h; omega))
 have c2 := b2.cell 2
 have hr2 := hr.fr hf2' (fun _ _ => id)
 clear hW1 hf1' hf2 hk2 b1 c1 hr
 go_wp2_with fail
 go_loopw [5, 23] (fun lv i wr => ∃ k : Nat, k ≤ xs.length ∧ i = .int .i64 k ∧ wr.ownsRow w2.heap.size 2 1 lv k (num64V (xs.take k)) ∧ Fr (fun _ => False) w2 wr) (fun _ i _ => xs.length - (intOf i).toNat)
 case atStart => exact ⟨0, by omega, rfl, World.ownsRow_nil _ _ _ _, Fr.refl _ _⟩
 case round =>
  obtain ⟨k, hk, rfl, hown, hf⟩ := hrel
  by_cases hlt : k < xs.length
  ·obtain ⟨x, hx⟩ : ∃ x, xs[k]? = some x := ⟨xs[k], List.getElem?_eq_getElem hlt⟩
   obtain ⟨b, o, rfl, hb, hc⟩ := hr2 k x hx
   have d0 := hf.cell_some hc id
   have HX := Lib.hid hx
   clear hr2 hc hx
   go_wp2_with (at_builtin; refine wpList_append1 _ rfl _ _ _ rfl w2.heap.size 2 (.int .i64 0) 8 Tryz.underlying132 int64_info rfl u5 k (num64V (xs.take k)) rfl (hown.alloc _) wr.heap.size (.int .i64 x) rfl ?_ rfl (by omega) (by omega) ?_ ?_; (· simp); (· have := hf.size; simp; omega); intro g3 c3 w3 hown3 hf3)
   go_roundw
   case rel =>
    have hfb : Fr (fun k => u5.ownBlock = some k) wr w3 := ((Fr.refl (fun k => u5.ownBlock = some k) wr).alloc _).trans hf3 (fun _ _ h => h)
    have e1 : num64V (xs.take (k + 1)) = num64V (xs.take k) ++ [.int .i64 x] := by
     obtain ⟨h1, h2⟩ := List.getElem?_eq_some_iff.1 HX.out
     rw [List.take_succ_eq_append_getElem h1, h2, num64V, num64V, List.map_append]
     rfl
    exact ⟨k + 1, by omega, by go_num, by rw [e1]; exact hown3, hf.own hown hfb (Nat.le_refl _)⟩
   case measure => simp [intOf]; omega
  ·obtain rfl : k = xs.length := by omega
   rw [List.take_length] at hown
   obtain ⟨A5, cap5, rfl, hr5⟩ := NumRow.of_own hown
   have hW3 := hW2.fr hf id (fun _ _ => id)
   have hA := own_ne_own hown hW3.own (by decide)
   have hf3 := hf2'.then_ hf
   have HT := writer_Nums (cap := cap5) hW3 hf3.size hr5 hA (by omega) (by
    rcases Nat.lt_or_ge 1024 xs.length with h | h
    ·exact .inr h
    ·exact .inl (by rw [numsB, List.length_append, List.length_append, num8_length, num8_length, count4_length, flat_num8]; omega))
   have hbs : (num8 G ++ num8 D).length = 16 := rfl
   clear hr2 c2 hr5 hA hW2 hf2' b2
   by_cases hl : xs.length ≤ 1024
   ·rw [if_pos hl] at HT
    have hE : Hid (errO (putErr xs) = .nilIface) := by show _ = _; rw [putErr, if_pos hl]; rfl
    have hP : Hid (putB G D xs = num8 G ++ num8 D ++ numsB xs) := by show _ = _; rw [putB, if_pos hl]
    clear hl
    go_wp2_with (first
     | (go_at_call 124; refine HT.mono ?_; rintro e w4 ⟨v4, rfl, hW4, hf4, hk4⟩))
    clear HT
    have hW4 : WriterAt w4 (w.heap.size + 1) w.heap.size v4 (num8 G ++ num8 D ++ numsB xs) none := hW4
    have hf4' : Fr (fun _ => False) w w4 := hf3.trans hf4 (fun k hk h => by rcases h with h | h; (· omega); (· have := own_ge hW3.own k h; omega))
    refine (writer_Bytes hW4 (by rw [List.length_append, List.length_append, num8_length, num8_length, numsB, List.length_append, count4_length, flat_num8]; omega)).mono ?_
    rintro e w6 ⟨v6, rfl, hv6, hf6⟩
    have hnil : errW none = .nilIface := rfl
    rw [hnil]
    go_wp2_with (go_at_call 70; refine (fault_Wrap_nil _ _ _).mono ?_; rintro e w' ⟨rfl, rfl⟩)
    refine bodyPost_ret (v := .tuple #[v6, .nilIface]) (by simp [results, Tryz.results151, go_sem]) rfl ?_
    exact ⟨v6, by rw [hE.out], by rw [hP.out]; exact Own8.base_ hv6 hf4'.size, hf4'.then_ hf6⟩
   ·rw [if_neg hl] at HT
    have hE : Hid (errO (putErr xs) = errV [((⟨#[99, 101, 114, 116]⟩ : ByteArray), 0), ((⟨#[119, 114, 105, 116, 101]⟩ : ByteArray), 16)] 2) := by show _ = _; rw [putErr, if_neg hl]; rfl
    have hP : Hid (putB G D xs = []) := by show _ = _; rw [putB, if_neg hl]
    clear hl
    go_wp2_with (first
     | (go_at_call 124; refine HT.mono ?_; rintro e w4 ⟨v4, rfl, hW4, hf4, hk4⟩))
    clear HT
    have hW4 : WriterAt w4 (w.heap.size + 1) w.heap.size v4 (num8 G ++ num8 D) (some 16) := hW4
    have hf4' : Fr (fun _ => False) w w4 := hf3.trans hf4 (fun k hk h => by rcases h with h | h; (· omega); (· have := own_ge hW3.own k h; omega))
    refine (writer_Bytes hW4 (by rw [hbs]; decide)).mono ?_
    rintro e w6 ⟨v6, rfl, hv6, hf6⟩
    have hnil : errW (some 16) = errV [((⟨#[119, 114, 105, 116, 101]⟩ : ByteArray), 16)] 2 := rfl
    rw [hnil]
    go_wp2_with (go_at_call 70; refine (fault_Wrap _ _ _ _ _).mono ?_; rintro e w' ⟨rfl, rfl⟩)
    refine bodyPost_ret (v := .tuple #[v6, errV [((⟨#[99, 101, 114, 116]⟩ : ByteArray), 0), ((⟨#[119, 114, 105, 116, 101]⟩ : ByteArray), 16)] 2]) (by simp [results, Tryz.results151, go_sem]) rfl ?_
    exact ⟨v6, by rw [hE.out], by rw [hP.out]; exact Own8.base_ hv6 hf4'.size, hf4'.then_ hf6⟩
theorem IntRow.of_own' {w : World} {base : Nat} {A : Option Addr} {n cap : Nat} {xs : List Int} (h : w.ownsRow base 3 1 (.slice A n cap) n (ints xs)) : IntRow w w.heap.size A xs := by
 obtain ⟨A', cap', hv, _, hat⟩ := own_form h
 cases hv
 intro k x hx
 obtain ⟨b, hb, _, hc⟩ := hat k (.int .i64 x) (by simp [ints, hx])
 exact ⟨b, 0, hb, World.block_lt_of_cell? w _ hc, by rw [Nat.zero_add]; exact hc⟩
theorem ints_cells {w : World} {b o : Nat} {xs : List Int} (h : IntAt w b o xs) : ∀ j u, (ints xs)[j]? = some u → w.cell? ((⟨b, o, none⟩ : Addr).add j) = some u := by
 intro j u hu
 rw [ints, List.getElem?_map] at hu
 obtain ⟨x, hx, rfl⟩ := Option.map_eq_some_iff.1 hu
 rw [add_at]
 exact h j x hx
theorem ints_one (xs : List Int) : ∀ u ∈ ints xs, u.oneCell' = true := by
 intro u hu
 obtain ⟨x, _, rfl⟩ := List.mem_map.1 hu
 rfl
theorem wpList_append_ints {w : World} {ops : Array Oper} {rest : List Oper} {o : Oper} {a : Act} {Q : Exit → Act → World → Prop} (hgd : o.guard = none) (s x : Operand)
  (ho : o.op = .call { callee := .builtin .append, args := #[s, x], argTypes := #[30, 30] })
  (base : Nat) (v : Value) (n : Nat) (ys : List Int) (hs : a.eval s = v) (hown : w.ownsRow base 3 1 v n (ints ys))
  (b f m c : Nat) (xs : List Int) (hx : a.eval x = .slice (some ⟨b, f, none⟩) m c) (hl : xs.length = m) (hxs : IntAt w b f xs)
  (hm : 0 < m) (h63 : n + m ≤ 1099511627776) (hbase : base ≤ w.heap.size)
  (h : ∀ g cap w', w'.ownsRow base 3 1 (.slice (some ⟨g, 0, none⟩) (n + m) cap) (n + m) (ints (ys ++ xs)) → w.grownBy w' v.ownBlock → (v.ownBlock = some g ∨ g = w.heap.size) → wpList Tryz.prog ops Q rest (a.put o.dst (.slice (some ⟨g, 0, none⟩) (n + m) cap)) w') : wpList Tryz.prog ops Q (o :: rest) a w := by
 have hinf : (Tryz.prog.info? 3).map (fun i => (i.zero, i.size, i.bytes)) = some (some (.int .i64 0), 1, 8) := by kernel_rfl
 obtain ⟨i0, hi, hz0, hz1, hz2⟩ := info_parts hinf
 refine wpList_append_lies (w := w) hgd s x 30 ho base 3 i0 (.int .i64 0) 1 8 Tryz.underlying30 hi hz0 hz1 hz2 rfl (by decide) v n (ints ys) hs hown ⟨b, f, none⟩ m c (ints xs) hx (by simp [ints, hl]) (ints_cells hxs) (ints_one xs) hm (by simp only [maxLen]; omega) (by omega) hbase w.heap.size rfl ?_
 intro g cap w' h1 h2 h3 _
 exact h g cap w' (by rw [ints, List.map_append]; exact h1) h2 h3
theorem own_built (w : World) {base : Nat} (hb : base ≤ w.heap.size) (xs : List Int) (hx : xs.length ≤ 1000) (n : Nat) (hn : n = xs.length) :
  (w.alloc (.cells (ints xs).toArray 3)).ownsRow base 3 1 (.slice (some ⟨w.heap.size, 0, none⟩) n n) n (ints xs) := by
 subst hn
 refine ⟨by simp [ints], .inr ⟨w.heap.size, xs.length, (ints xs).toArray, rfl, hb, heap_alloc_new w _, Nat.le_refl _, by simp only [maxLen]; omega, by simp [ints], ?_⟩⟩
 simp [ints, List.take_of_length_le]
section
variable {bs t : List Int} {p : Nat}
theorem drop_add {a b : List Int} (h : bs.drop p = a ++ b) : bs.drop (p + a.length) = b := by
 rw [← List.drop_drop, h, List.drop_left]
theorem drop_len {a b : List Int} (h : bs.drop p = a ++ b) : bs.length - p = a.length + b.length := by
 have := congrArg List.length h
 rw [List.length_drop, List.length_append] at this
 exact this
theorem num_read {n : Int} (h : bs.drop p = num8 n ++ t) (h0 : -9223372036854775808 ≤ n) (h1 : n ≤ 9223372036854775807) : numC bs p = 0 ∧ numX bs p = n ∧ bs.drop (p + 8) = t := by
 have hl := drop_len h
 rw [num8_length] at hl
 refine ⟨by rw [numC, if_neg (by omega)], ?_, by have := drop_add h; rw [num8_length] at this; exact this⟩
 rw [numX, h, List.take_left' (num8_length n)]
 exact spell_num8 h0 h1
theorem count_read {n : Nat} {most : Int} (h : bs.drop p = count4 n ++ t) (h1 : (n : Int) < 4294967296) : textN bs p = n ∧ countC bs p most = (if (n : Int) > most then 2 else 0) ∧ bs.drop (p + 4) = t := by
 have hl := drop_len h
 rw [count4_length] at hl
 have e : spell64 ((bs.drop p).take 4) = n := by
  rw [h, List.take_left' (count4_length n)]
  exact spell_count4 (by omega) h1
 refine ⟨by rw [textN, e]; exact Int.toNat_natCast n, ?_, by have := drop_add h; rw [count4_length] at this; exact this⟩
 rw [countC, if_neg (by omega), e]
theorem text_read {s : List Int} (h : bs.drop p = textB s ++ t) (hs : s.length ≤ 65536) : textC bs p = 0 ∧ textX bs p = s ∧ textN bs p = s.length ∧ bs.drop (p + 4 + textN bs p) = t := by
 rw [textB, List.append_assoc] at h
 obtain ⟨h1, h2, h3⟩ := count_read (most := 65536) h (by omega)
 rw [if_neg (by omega)] at h2
 have hl := drop_len h3
 refine ⟨?_, ?_, h1, ?_⟩
 ·rw [textC, if_neg (by simp [h2]), if_neg (by rw [h1]; omega)]
 ·rw [textX, h1, h3, List.take_left' rfl]
 ·have := drop_add h3
  rw [h1]
  exact this
theorem nums_run {l : List Int} : ∀ {p : Nat}, bs.drop p = l.flatMap num8 ++ t → (∀ y ∈ l, -9223372036854775808 ≤ y ∧ y ≤ 9223372036854775807) → ∃ q, numsRun bs l.length p = (l, q, 0) ∧ bs.drop q = t := by
 induction l with
 | nil => intro p h _; exact ⟨p, rfl, by simpa using h⟩
 | cons x r ih =>
  intro p h hw
  rw [List.flatMap_cons, List.append_assoc] at h
  obtain ⟨h1, h2, h3⟩ := num_read h (hw x List.mem_cons_self).1 (hw x List.mem_cons_self).2
  obtain ⟨q, hq, hd⟩ := ih h3 (fun y hy => hw y (List.mem_cons_of_mem _ hy))
  refine ⟨q, ?_, hd⟩
  rw [List.length_cons, numsRun, rowRun_on h1]
  rw [numsRun] at hq
  rw [hq, h2]
theorem nums_read {l : List Int} (h : bs.drop p = numsB l ++ t) (hl : l.length ≤ 1024) (hw : ∀ y ∈ l, -9223372036854775808 ≤ y ∧ y ≤ 9223372036854775807) : numsC bs p = 0 ∧ numsX bs p = l ∧ bs.drop (numsP bs p) = t := by
 rw [numsB, List.append_assoc] at h
 obtain ⟨h1, h2, h3⟩ := count_read (most := 1024) h (by omega)
 rw [if_neg (by omega)] at h2
 obtain ⟨q, hq, hd⟩ := nums_run h3 hw
 refine ⟨?_, ?_, ?_⟩
 ·rw [numsC, if_neg (by simp [h2]), h1, hq]
 ·rw [numsX, h1, hq]
 ·rw [numsP, h1, hq]; exact hd
/-! Back. -/
theorem num_kept (h8 : Bytes8 bs) (h : numC bs p = 0) : bs.drop p = num8 (numX bs p) ++ bs.drop (p + 8) := by
 have hl : ¬ bs.length - p < 8 := fun hl => by rw [numC, if_pos hl] at h; cases h
 rw [numX, num8_spell (h8.part p 8) (by rw [List.length_take, List.length_drop]; omega), ← List.drop_drop, List.take_append_drop]
theorem count_kept {most : Int} (h8 : Bytes8 bs) (h : countC bs p most = 0) : bs.drop p = count4 (textN bs p) ++ bs.drop (p + 4) ∧ (textN bs p : Int) ≤ most := by
 obtain ⟨h4, hm⟩ := countC_ok h
 have hlen : ((bs.drop p).take 4).length = 4 := by rw [List.length_take, List.length_drop]; omega
 have hb4 := spell4_bound (h8.part p 4) hlen
 have hn : spell64 ((bs.drop p).take 4) = (textN bs p : Int) := by unfold textN; omega
 rw [← hn]
 refine ⟨?_, hm⟩
 rw [count4_spell (h8.part p 4) hlen, ← List.drop_drop, List.take_append_drop]
theorem text_kept (h8 : Bytes8 bs) (h : textC bs p = 0) : bs.drop p = textB (textX bs p) ++ bs.drop (p + 4 + textN bs p) ∧ (textX bs p).length = textN bs p ∧ (textX bs p).length ≤ 65536 := by
 unfold textC at h
 split at h
 ·rename_i h1; exact absurd h h1
 ·rename_i h1
  split at h
  ·cases h
  ·rename_i h2
   have hc : countC bs p 65536 = 0 := by simpa using h1
   obtain ⟨h3, h4⟩ := count_kept h8 hc
   have hlen : (textX bs p).length = textN bs p := by rw [textX, List.length_take, List.length_drop]; omega
   refine ⟨?_, hlen, by omega⟩
   rw [textB, hlen, List.append_assoc]
   have e : bs.drop (p + 4 + textN bs p) = (bs.drop (p + 4)).drop (textN bs p) := by rw [List.drop_drop]
   rw [e, textX, List.take_append_drop]
   exact h3
theorem nums_kept1 (h8 : Bytes8 bs) : ∀ (n p : Nat), (numsRun bs n p).2.2 = 0 → (numsRun bs n p).1.length = n ∧ bs.drop p = (numsRun bs n p).1.flatMap num8 ++ bs.drop (numsRun bs n p).2.1
 | 0, p, _ => ⟨rfl, rfl⟩
 | n + 1, p, h => by
  by_cases hc : numC bs p = 0
  ·rw [numsRun, rowRun_on hc] at h ⊢
   obtain ⟨h1, h2⟩ := nums_kept1 h8 n (p + 8) h
   rw [numsRun] at h1 h2
   refine ⟨by simp only [List.length_cons, h1], ?_⟩
   rw [List.flatMap_cons, List.append_assoc, ← h2]
   exact num_kept h8 hc
  ·rw [numsRun, rowRun_stop hc] at h
   exact absurd h hc
theorem nums_kept (h8 : Bytes8 bs) (h : numsC bs p = 0) : bs.drop p = numsB (numsX bs p) ++ bs.drop (numsP bs p) ∧ (numsX bs p).length ≤ 1024 := by
 unfold numsC at h
 split at h
 ·rename_i h1; exact absurd h h1
 ·rename_i h1
  have hc : countC bs p 1024 = 0 := by simpa using h1
  obtain ⟨h3, h4⟩ := count_kept h8 hc
  obtain ⟨k1, k2⟩ := nums_kept1 h8 _ _ h
  refine ⟨?_, by rw [numsX, k1]; omega⟩
  rw [numsB, numsX, k1, List.append_assoc, numsP, ← k2]
  exact h3
end
def getE1 (x : Int) : Int := if x < 0 then 23 else if x > 2147483647 then 2 else 0
structure CertAt (w : World) (bc base : Nat) (G D : Int) (v : Value) (done : List Int) : Prop where
 blk : Blk w bc 41 #[.int .i64 G, .int .i64 D, v]
 own : w.ownsRow base 3 1 v done.length (ints done)
def Get1 (w : World) (bc base : Nat) (G D : Int) (v : Value) (done : List Int) (x : Int) (e : Ending) (w' : World) : Prop :=
 e = .returned (.int .i64 (getE1 x)) ∧ (getE1 x = 0 → ∃ v', CertAt w' bc base G D v' (done ++ [x])) ∧ Fr (fun k => k = bc ∨ v.ownBlock = some k) w w'
theorem int_info' : (Tryz.prog.info? 3).map (fun i => (i.zero, i.size, i.bytes)) = some (some (.int .i64 0), 1, 8) := by kernel_rfl
theorem cert_Get1 {w : World} {bc base : Nat} {G D : Int} {v : Value} {done : List Int} (h : CertAt w bc base G D v done) (hb : base ≤ w.heap.size) (hl : done.length ≤ 100000) (x : Int) :
  Calls Tryz.prog 177 #[.int .i64 x, .pointer (some ⟨bc, 0, none⟩)] w (Get1 w bc base G D v done x) := by
 obtain ⟨A, cap, rfl, _, _⟩ := own_form h.own
 have c2 : w.cell? ⟨bc, 2, none⟩ = some (.slice A done.length cap) := h.blk.cell 2
 by_cases h0 : x < 0
 ·have hE : Hid (getE1 x = 23) := by show _ = _; rw [getE1, if_pos h0]
  go_enter Tryz.func177, Tryz.ntmps177
  go_wp2
  go_ret
  exact ⟨by rw [hE.out]; rfl, (fun h => by rw [hE.out] at h; cases h), Fr.refl _ _⟩
 ·by_cases h1 : x > 2147483647
  ·have hE : Hid (getE1 x = 2) := by show _ = _; rw [getE1, if_neg h0, if_pos h1]
   go_enter Tryz.func177, Tryz.ntmps177
   go_wp2
   go_ret
   exact ⟨by rw [hE.out]; rfl, (fun h => by rw [hE.out] at h; cases h), Fr.refl _ _⟩
  ·have hE : Hid (getE1 x = 0) := by show _ = _; rw [getE1, if_neg h0, if_neg h1]
   have hlt := h.blk.lt
   go_enter Tryz.func177, Tryz.ntmps177
   go_wp2_with (at_builtin; refine wpList_append1 _ rfl _ _ _ rfl base 3 (.int .i64 0) 8 Tryz.underlying30 int_info' rfl (.slice A done.length cap) done.length (ints done) rfl (h.own.alloc _) w.heap.size (.int .i64 x) rfl ?_ rfl (by omega) (by omega) ?_ ?_; (· simp); (· simp; omega); intro g3 c3 w3 hown3 hf3; have hb3 := (h.blk.alloc (Obj.cells #[.int .i64 x] 3)).fr hf3 (own_ne_blk h.own h.blk (by decide)); have z2 := hb3.frozen 2; have d2 := hb3.cell 2)
   go_ret
   have hf4 : Fr (fun k => k = bc ∨ (Value.slice A done.length cap).ownBlock = some k) w w3 := ((Fr.refl _ w).alloc (Obj.cells #[.int .i64 x] 3)).trans hf3 (fun k _ h => .inr h)
   refine ⟨by rw [hE.out]; rfl, fun _ => ⟨.slice (some ⟨g3, 0, none⟩) (done.length + 1) c3, hb3.set_ 2 _, ?_⟩, hf4.setCell (p := ⟨bc, 2, none⟩) (fun _ => .inl rfl) _⟩
   rw [List.length_append, ints, List.map_append]
   exact own_setCell hown3 hb3 (by decide) 2 _
def GotEach (w : World) (bc base : Nat) (G D : Int) (xs : List Int) (e : Ending) (w' : World) : Prop :=
 (((∀ x ∈ xs, getE1 x = 0) ∧ e = .returned .nilIface ∧ ∃ v, CertAt w' bc base G D v xs) ∨ (¬ (∀ x ∈ xs, getE1 x = 0) ∧ ∃ l c, e = .returned (errV l c))) ∧ Fr (fun k => k = bc) w w'
theorem each_Get {w : World} {bc : Nat} {G D : Int} (h : Blk w bc 41 #[.int .i64 G, .int .i64 D, .slice none 0 0]) {F : Nat → Prop} {A : Option Addr} {cap : Nat} {xs : List Int} (hr : NumRow w F A xs) (hF : ∀ k, F k → k ≠ bc ∧ k < w.heap.size) (hl : xs.length ≤ 1024) :
  Calls Tryz.prog 176 #[.slice A xs.length cap, .func (.func 177) #[] #[.pointer (some ⟨bc, 0, none⟩)]] w (GotEach w bc w.heap.size G D xs) := by
 go_enter Tryz.func176, Tryz.ntmps176
 go_wp2_with fail
 go_loopw [10] (fun i wr => ∃ (k : Nat) (v : Value), k ≤ xs.length ∧ i = .int .i64 k ∧ (∀ x ∈ xs.take k, getE1 x = 0) ∧ CertAt wr bc w.heap.size G D v (xs.take k) ∧ Fr (fun k => k = bc) w wr) (fun i _ => xs.length - (intOf i).toNat)
 case atStart => exact ⟨0, _, by omega, rfl, fun x hx => by simp at hx, ⟨h, World.ownsRow_nil _ _ _ _⟩, Fr.refl _ _⟩
 case round =>
  obtain ⟨k, v, hk, rfl, hok, hC, hf⟩ := hrel
  by_cases hlt : k < xs.length
  ·obtain ⟨x, hx⟩ : ∃ x, xs[k]? = some x := ⟨xs[k], List.getElem?_eq_getElem hlt⟩
   obtain ⟨b, o, rfl, hFb, hc⟩ := hr k x hx
   have d0 := hf.cell_some hc (hF b hFb).1
   have HX := Lib.hid hx
   have HOK := Lib.hid hok
   have htk : Hid (xs.take (k + 1) = xs.take k ++ [x]) := by
    obtain ⟨h1, h2⟩ := List.getElem?_eq_some_iff.1 hx
    show _ = _
    rw [List.take_succ_eq_append_getElem h1, h2]
   have HG := cert_Get1 hC hf.size (by simp; omega) x
   clear hr hc hx hok
   by_cases h0 : getE1 x = 0
   ·have H0 := Lib.hid h0
    have t0 : (getE1 x != 0) = false := by simp [h0]
    clear h0
    go_wp2_with (go_at_call 177; refine HG.mono ?_; rintro e w1 ⟨rfl, hC1, hf1⟩)
    obtain ⟨v1, hC1⟩ := hC1 H0.out
    go_roundw
    case rel =>
     refine ⟨k + 1, v1, by omega, by go_num, ?_, by rw [htk.out]; exact hC1, hf.trans hf1 (fun j hj h => h.elim id (fun h => by have := own_ge hC.own j h; omega))⟩
     intro y hy
     rw [htk.out] at hy
     rcases List.mem_append.1 hy with hy | hy
     ·exact HOK.out y hy
     ·rw [List.mem_singleton.1 hy]; exact H0.out
    case measure => simp [intOf]; omega
   ·have H0 := Lib.hid h0
    have t0 : (getE1 x != 0) = true := by simpa using h0
    have t1 : (getE1 x == 0) = false := by simpa using h0
    clear h0
    go_wp2_with (first
     | (go_at_call 177; refine HG.mono ?_; rintro e w1 ⟨rfl, hC1, hf1⟩)
     | (go_at_call 71; refine (fault_Of _ t1 _).mono ?_; rintro e w' ⟨rfl, rfl⟩)
     | (go_at_call 70; refine (fault_Wrap _ _ _ _ _).mono ?_; rintro e w' ⟨rfl, rfl⟩))
    go_ret
    exact ⟨.inr ⟨fun h => H0.out (h x (List.mem_of_getElem? HX.out)), _, _, rfl⟩, hf.trans hf1 (fun j hj h => h.elim id (fun h => by have := own_ge hC.own j h; omega))⟩
  ·obtain rfl : k = xs.length := by omega
   rw [List.take_length] at hok hC
   have HOK := Lib.hid hok
   clear hok hr
   go_wp2
   go_ret
   exact ⟨.inl ⟨HOK.out, rfl, v, hC⟩, hf⟩
theorem rd_int {w w' : World} {g : Nat} {A : Option Addr} {bs : List Int} {n : Int} {pos' : Nat} {s : ByteArray} {pos : Nat} {c : Int} {err : Option (List (ByteArray × Int) × Int)} {e : Ending} (h : Rd w g A bs (IsInt n) pos' (.int .i64 0) s pos c err e w') :
  ∃ x err' p, e = .returned (.int .i64 x) ∧ ReaderAt w' g A bs p err' ∧ Fr (fun k => k = g) w w' ∧ (err = none → c = 0 → x = n ∧ p = pos' ∧ err' = none) ∧ (¬ (err = none ∧ c = 0) → ∃ er, err' = some er) := by
 cases err with
 | some er =>
  obtain ⟨rfl, h1, h2⟩ := h
  exact ⟨0, some er, pos, rfl, h1, h2.mono (fun _ _ h => h.elim), (fun h => by cases h), fun _ => ⟨er, rfl⟩⟩
 | none =>
  rcases h with ⟨h0, v, rfl, rfl, h1, h2⟩ | ⟨h0, rfl, ⟨p, h1⟩, h2⟩
  ·exact ⟨n, none, pos', rfl, h1, h2, fun _ _ => ⟨rfl, rfl, rfl⟩, fun h => absurd ⟨rfl, h0⟩ h⟩
  ·exact ⟨0, _, p, rfl, h1, h2, fun _ h => absurd h h0, fun _ => ⟨_, rfl⟩⟩
theorem rd_row {w w' : World} {g : Nat} {A : Option Addr} {bs : List Int} {V : Value → World → Prop} {pos' : Nat} {s : ByteArray} {pos : Nat} {c : Int} {err : Option (List (ByteArray × Int) × Int)} {e : Ending} (h : Rd w g A bs V pos' (.slice none 0 0) s pos c err e w') :
  ∃ v err' p, e = .returned v ∧ ReaderAt w' g A bs p err' ∧ Fr (fun k => k = g) w w' ∧ (err = none → c = 0 → V v w' ∧ p = pos' ∧ err' = none) ∧ (¬ (err = none ∧ c = 0) → ∃ er, err' = some er) := by
 cases err with
 | some er =>
  obtain ⟨rfl, h1, h2⟩ := h
  exact ⟨_, some er, pos, rfl, h1, h2.mono (fun _ _ h => h.elim), (fun h => by cases h), fun _ => ⟨er, rfl⟩⟩
 | none =>
  rcases h with ⟨h0, v, rfl, hv, h1, h2⟩ | ⟨h0, rfl, ⟨p, h1⟩, h2⟩
  ·exact ⟨v, none, pos', rfl, h1, h2, fun _ _ => ⟨hv, rfl, rfl⟩, fun h => absurd ⟨rfl, h0⟩ h⟩
  ·exact ⟨_, _, p, rfl, h1, h2, fun _ h => absurd h h0, fun _ => ⟨_, rfl⟩⟩
def getOk (bs : List Int) : Prop := intC bs 0 2147483647 = 0 ∧ intC bs 8 2147483647 = 0 ∧ numsC bs 16 = 0 ∧ ¬ numsP bs 16 < bs.length ∧ ∀ x ∈ numsX bs 16, getE1 x = 0
def GetOut (w : World) (bs : List Int) (e : Ending) (w' : World) : Prop :=
  ((getOk bs ∧ ∃ A cap, e = .returned (.tuple #[.agg #[.int .i64 (numX bs 0), .int .i64 (numX bs 8), .slice A (numsX bs 16).length cap], .nilIface]) ∧ IntRow w' w'.heap.size A (numsX bs 16)) ∨
   (¬ getOk bs ∧ ∃ l c, e = .returned (.tuple #[.agg #[.int .i64 0, .int .i64 0, .slice none 0 0], errV l c]))) ∧ Fr (fun _ => False) w w'
theorem get_fr {w w' : World} {a b c : Value} (h : Fr (fun _ => False) w w') : Fr (fun _ => False) w (((w'.setCell ⟨w.heap.size, 0, none⟩ a).setCell ⟨w.heap.size, 1, none⟩ b).setCell ⟨w.heap.size, 2, none⟩ c) :=
 Fr.setCell (p := ⟨w.heap.size, 2, none⟩) (Fr.setCell (p := ⟨w.heap.size, 1, none⟩) (Fr.setCell (p := ⟨w.heap.size, 0, none⟩) h (fun h => absurd h (Nat.lt_irrefl _)) _) (fun h => absurd h (Nat.lt_irrefl _)) _) (fun h => absurd h (Nat.lt_irrefl _)) _
theorem cert_Get {w : World} {F : Nat → Prop} {A : Option Addr} {cap : Nat} {bs : List Int} (hr : ByteRow w F A bs) (hl : bs.length ≤ 1000000) (h8 : Bytes8 bs) :
  Calls Tryz.prog 152 #[.slice A bs.length cap] w (GetOut w bs) := by
 have hf0 : Fr (fun _ => False) w (w.alloc (Obj.cells #[.int .i64 0, .int .i64 0, .slice none 0 0] 41)) := (Fr.refl _ _).alloc _
 have rb0 := Blk.new w 41 #[.int .i64 0, .int .i64 0, .slice none 0 0]
 go_enter Tryz.func152, Tryz.ntmps152
 go_wp2_with fail
 refine (wire_New (hr.fr hf0 (fun _ _ => id)) (by omega)).mono ?_
 rintro e w2 ⟨g, A2, rfl, hR2, hg2, hA2, hf02⟩
 have rb2 := rb0.fr hf02 id
 have hf2 := hf0.then_ hf02
 have hgn : w.heap.size ≠ g := by have := rb0.lt; omega
 have hgw : w.heap.size ≤ g := by have := rb0.lt; omega
 clear rb0 hf0 hf02 hr hg2
 go_wp2_with fail
 refine (reader_Int hR2 (by omega) 2147483647).mono ?_
 intro e w3 h3
 obtain ⟨x1, err1, p1, rfl, hR3, hf23, hok1, hbad1⟩ := rd_int h3
 have rb3 := rb2.fr hf23 hgn
 have hf3 : Fr (fun _ => False) w w3 := hf2.trans hf23 (fun k hk e => by omega)
 clear h3 hf23 rb2 hf2 hR2
 go_wp2_with fail
 have hf34 : Fr (fun _ => False) w3 (w3.alloc (Obj.cells #[.int .i64 x1, .int .i64 0, .slice none 0 0] 41)) := (Fr.refl _ _).alloc _
 have cb4 := Blk.new w3 41 #[.int .i64 x1, .int .i64 0, .slice none 0 0]
 have hlt3 := rb3.lt
 have halt3 := hR3.alt
 have hbg : w3.heap.size ≠ g := by obtain ⟨_, _, _, _, hb⟩ := hR3.blk; have := hb.lt; omega
 refine (reader_Int (hR3.fr hf34 id (fun _ _ _ => id)) (by omega) 2147483647).mono ?_
 intro e w5 h5
 obtain ⟨x2, err2, p2, rfl, hR5, hf45, hok2, hbad2⟩ := rd_int h5
 have cb5 := cb4.fr hf45 hbg
 have rb5 := (rb3.fr hf34 id).fr hf45 hgn
 have hf5 : Fr (fun _ => False) w w5 := (hf3.then_ hf34).trans hf45 (fun k hk e => by omega)
 have z1 := cb5.frozen 1
 have c51 := cb5.cell 1
 have hsz3 := hf3.size
 have hsz5 : w3.heap.size < w5.heap.size := cb5.lt
 clear h5 hf45 rb3 hf34 hR3 cb4
 go_wp2_with fail
 have hf56 : Fr (fun k => k = w3.heap.size) w5 (w5.setCell ⟨w3.heap.size, 1, none⟩ (.int .i64 x2)) := Fr.setCell (S := fun k => k = w3.heap.size) (p := ⟨w3.heap.size, 1, none⟩) (Fr.refl _ _) (fun _ => rfl) _
 have cb6 := cb5.set_ 1 (.int .i64 x2)
 have rb6 := rb5.fr hf56 (by omega)
 have hA2' : ∀ k o, A2 = some ⟨k, o, none⟩ → k ≠ w3.heap.size := fun k o e => by have := halt3 k o e; omega
 have hR6 := hR5.fr hf56 (fun e => hbg e.symm) hA2'
 have hf6 : Fr (fun _ => False) w (w5.setCell ⟨w3.heap.size, 1, none⟩ (.int .i64 x2)) := hf5.trans hf56 (fun k hk e => by omega)
 generalize hW6 : w5.setCell ⟨w3.heap.size, 1, none⟩ (.int .i64 x2) = w6 at hf56 cb6 rb6 hR6 hf6 ⊢
 have hsz6 : w3.heap.size < w6.heap.size := cb6.lt
 clear hW6 hf56 cb5 rb5 hR5 hf5 z1 c51
 refine (reader_Nums hR6 (by omega) h8).mono ?_
 intro e w7 h7
 obtain ⟨v7, err3, p3, rfl, hR7, hf67, hok3, hbad3⟩ := rd_row h7
 have cb7 := cb6.fr hf67 hbg
 have rb7 := rb6.fr hf67 hgn
 have hf7 : Fr (fun _ => False) w w7 := hf6.trans hf67 (fun k hk e => by omega)
 clear h7 hf67 cb6 rb6 hR6 hf6
 go_wp2_with fail
 refine (reader_End hR7 (by omega)).mono ?_
 rintro e w8 ⟨rfl, hf78⟩
 have cb8 := cb7.fr hf78 id
 have rb8 := rb7.fr hf78 id
 have hf8 := hf7.then_ hf78
 have hok : getOk bs → endE bs p3 err3 = none := fun ⟨g1, g2, g3, g4, _⟩ => by
  obtain ⟨_, rfl, rfl⟩ := hok1 (by trivial) g1
  obtain ⟨_, rfl, rfl⟩ := hok2 (by trivial) g2
  obtain ⟨_, rfl, rfl⟩ := hok3 (by trivial) g3
  rw [endE, if_neg g4]
 have y0 := rb8.frozen 0
 have y1 := rb8.frozen 1
 have y2 := rb8.frozen 2
 have e0 := rb8.cell 0
 have e1 := rb8.cell 1
 have e2 := rb8.cell 2
 cases hE : endE bs p3 err3 with
 | some er =>
  have hno : Hid (¬ getOk bs) := fun h => by rw [hok h] at hE; cases hE
  obtain ⟨t, u, hu⟩ := errO_some er
  have HWr := fault_Wrap er.1 er.2 (⟨#[99, 101, 114, 116]⟩ : ByteArray) 0
  rw [show errV er.1 er.2 = .iface t u from hu] at HWr
  rw [hu]
  clear hok hok1 hok2 hok3 hbad1 hbad2 hbad3 hE hu hR7 cb7 rb7 hf7 hf78 cb8
  go_wp2_with (go_at_call 70; refine (HWr _).mono ?_; rintro e w' ⟨rfl, rfl⟩)
  have rb9 := ((rb8.set_ 0 (.int .i64 0)).set_ 1 (.int .i64 0)).set_ 2 (.slice none 0 0)
  have d0 := rb9.cell 0
  have d1 := rb9.cell 1
  have d2 := rb9.cell 2
  refine bodyPost_ret (v := .tuple #[.agg #[.int .i64 0, .int .i64 0, .slice none 0 0], errV (((⟨#[99, 101, 114, 116]⟩ : ByteArray), 0) :: er.1) er.2]) (by simp [results, Tryz.results152, go_sem, d0, d1, d2]) rfl ?_
  exact ⟨.inr ⟨hno.out, _, _, rfl⟩, get_fr hf8⟩
 | none =>
  have he3 : err3 = none := by
   cases err3 with
   | none => rfl
   | some er => cases hE
  subst he3
  have hc3 : err2 = none ∧ numsC bs p2 = 0 := by
   apply Classical.byContradiction
   intro h
   obtain ⟨er, h⟩ := hbad3 h
   cases h
  obtain ⟨rfl, hc3⟩ := hc3
  have hc2 : err1 = none ∧ intC bs p1 2147483647 = 0 := by
   apply Classical.byContradiction
   intro h
   obtain ⟨er, h⟩ := hbad2 h
   cases h
  obtain ⟨rfl, hc2⟩ := hc2
  have hc1 : intC bs 0 2147483647 = 0 := by
   apply Classical.byContradiction
   intro h
   obtain ⟨er, h⟩ := hbad1 (fun hh => h hh.2)
   cases h
  obtain ⟨rfl, rfl, _⟩ := hok1 (by trivial) hc1
  obtain ⟨rfl, rfl, _⟩ := hok2 (by trivial) hc2
  obtain ⟨hv7, rfl, _⟩ := hok3 (by trivial) hc3
  have hlast : ¬ numsP bs 16 < bs.length := by
   intro h
   rw [endE, if_pos h] at hE
   cases hE
  have hleft : Hid ((∀ x ∈ numsX bs 16, getE1 x = 0) → getOk bs) := fun h => ⟨hc1, hc2, hc3, hlast, h⟩
  have hright : Hid (getOk bs → ∀ x ∈ numsX bs 16, getE1 x = 0) := fun h => h.2.2.2.2
  have hx1 : (numsX bs 16).length ≤ 1024 := (nums_kept h8 hc3).2
  obtain ⟨A7, cap7, rfl, hr7⟩ := NumRow.of_own hv7
  have hr8 := hr7.fr hf78 (fun _ _ => id)
  have hF8 : ∀ k, (Value.slice A7 (numsX bs 16).length cap7).ownBlock = some k → k ≠ w3.heap.size ∧ k < w8.heap.size := fun k hk => by
   refine ⟨fun e => own_ne_blk hv7 cb7 (by decide) (e ▸ hk), ?_⟩
   rcases hv7.2 with ⟨h, _⟩ | ⟨g', cap', cur, h, _, hg', _⟩
   ·rw [h] at hk; cases hk
   ·rw [h] at hk; cases hk
    exact Nat.lt_of_lt_of_le (lt_of_heap hg') hf78.size
  have HEa := each_Get (cap := cap7) cb8 hr8 hF8 hx1
  have hen : errO none = .nilIface := rfl
  clear hok hok1 hok2 hok3 hbad1 hbad2 hbad3 hE hR7 cb7 rb7 hf7 hf78 hc1 hc2 hc3 hlast hr7 hr8 hF8 hv7
  have hw3 : ¬ w.heap.size = w3.heap.size := by omega
  go_wp2_with fail
  refine HEa.mono ?_
  rintro e w9 ⟨h9, hf89⟩
  have rb9 := rb8.fr hf89 hw3
  have hf9 : Fr (fun _ => False) w w9 := hf8.trans hf89 (fun k hk e => by omega)
  have y0' := rb9.frozen 0
  have y1' := rb9.frozen 1
  have y2' := rb9.frozen 2
  have e0' := rb9.cell 0
  have e1' := rb9.cell 1
  have e2' := rb9.cell 2
  clear y0 y1 y2 e0 e1 e2 HEa
  rcases h9 with ⟨hall, rfl, v9, hC9⟩ | ⟨hnot, l9, c9, rfl⟩
  ·have hgo : Hid (getOk bs) := hleft.out hall
   obtain ⟨A9, cap9, rfl, _, _⟩ := own_form hC9.own
   have q0 := hC9.blk.cell 0
   have q1 := hC9.blk.cell 1
   have q2 := hC9.blk.cell 2
   clear hall
   go_wp2_with fail
   have rb10 := ((rb9.set_ 0 (.int .i64 (numX bs 0))).set_ 1 (.int .i64 (numX bs 8))).set_ 2 (.slice A9 (numsX bs 16).length cap9)
   have d0 := rb10.cell 0
   have d1 := rb10.cell 1
   have d2 := rb10.cell 2
   have o10 := own_setCell (own_setCell (own_setCell hC9.own rb9 (by decide) 0 (.int .i64 (numX bs 0))) (rb9.set_ 0 (.int .i64 (numX bs 0))) (by decide) 1 (.int .i64 (numX bs 8))) ((rb9.set_ 0 (.int .i64 (numX bs 0))).set_ 1 (.int .i64 (numX bs 8))) (by decide) 2 (.slice A9 (numsX bs 16).length cap9)
   refine bodyPost_ret (v := .tuple #[.agg #[.int .i64 (numX bs 0), .int .i64 (numX bs 8), .slice A9 (numsX bs 16).length cap9], .nilIface]) (by simp [results, Tryz.results152, go_sem, d0, d1, d2]) rfl ?_
   exact ⟨.inl ⟨hgo.out, A9, cap9, rfl, IntRow.of_own' o10⟩, get_fr hf9⟩
  ·have hno : Hid (¬ getOk bs) := fun h => hnot (hright.out h)
   obtain ⟨t, u, hu⟩ := errV_iface l9 c9
   have HWr := fault_Wrap l9 c9 (⟨#[99, 101, 114, 116]⟩ : ByteArray) 0
   rw [hu] at HWr
   rw [hu]
   clear hnot hu
   go_wp2_with (go_at_call 70; refine (HWr _).mono ?_; rintro e w' ⟨rfl, rfl⟩)
   have rb10 := ((rb9.set_ 0 (.int .i64 0)).set_ 1 (.int .i64 0)).set_ 2 (.slice none 0 0)
   have d0 := rb10.cell 0
   have d1 := rb10.cell 1
   have d2 := rb10.cell 2
   refine bodyPost_ret (v := .tuple #[.agg #[.int .i64 0, .int .i64 0, .slice none 0 0], errV (((⟨#[99, 101, 114, 116]⟩ : ByteArray), 0) :: l9) c9]) (by simp [results, Tryz.results152, go_sem, d0, d1, d2]) rfl ?_
   exact ⟨.inr ⟨hno.out, _, _, rfl⟩, get_fr hf9⟩
def ZSay (s : SayD) : Prop := s = ⟨0, 0, false, ⟨#[]⟩, ⟨#[]⟩, 0, 0, 0, 0⟩
def zeroSay (s : SayD) : Bool := (s.kind == 0) && (s.txn == 0) && (s.yes == false) && (s.from_.toList == (⟨#[]⟩ : ByteArray).toList) && (s.to_.toList == (⟨#[]⟩ : ByteArray).toList) && (s.epoch == 0) && (s.shard == 0) && (s.target == 0) && (s.root == 0)
theorem empty_bytes (a : ByteArray) : (a.toList == (⟨#[]⟩ : ByteArray).toList) = true ↔ a = ⟨#[]⟩ := by
 rw [beq_iff_eq]
 constructor
 ·intro h
  rw [ByteArray.toList_eq, ByteArray.toList_eq] at h
  exact ByteArray.ext (Array.ext' h)
 ·rintro rfl
  rfl
theorem zeroSay_iff (s : SayD) : zeroSay s = true ↔ ZSay s := by
 obtain ⟨k, t, y, f, g, e, sh, ta, r⟩ := s
 unfold zeroSay ZSay
 simp only [Bool.and_eq_true]
 rw [empty_bytes, empty_bytes]
 simp only [beq_iff_eq, SayD.mk.injEq]
 constructor
 ·rintro ⟨⟨⟨⟨⟨⟨⟨⟨a, b⟩, c⟩, d⟩, e⟩, f⟩, g⟩, h⟩, i⟩
  exact ⟨a, b, c, d, e, f, g, h, i⟩
 ·rintro ⟨a, b, c, d, e, f, g, h, i⟩
  exact ⟨⟨⟨⟨⟨⟨⟨⟨a, b⟩, c⟩, d⟩, e⟩, f⟩, g⟩, h⟩, i⟩
theorem say_fields : (Tryz.prog).underlying 23 = some (.struct ((Tryz.prog).fieldsOf 23)) := by kernel_rfl
theorem say_stood : (Tryz.prog).stoodInHeld 23 = false := by kernel_rfl
theorem run_eqSay (s : SayD) (w : World) : (Op.equalIn 10000 23 (.agg #[.int .i64 s.kind, .int .i64 s.txn, .bool s.yes, .string s.from_, .string s.to_, .int .i64 s.epoch, .int .i64 s.shard, .int .i64 s.target, .int .i64 s.root]) (.agg #[.int .i64 0, .int .i64 0, .bool false, .string ⟨#[]⟩, .string ⟨#[]⟩, .int .i64 0, .int .i64 0, .int .i64 0, .int .i64 0])).run Tryz.prog w = .ok (zeroSay s) w := by
 obtain ⟨k, t, y, f, g, e, sh, ta, r⟩ := s
 have u1 := Tryz.underlying3
 have u2 := Tryz.underlying2
 have u3 := Tryz.underlying4
 have u4 := Tryz.underlying9
 rw [show (10000 : Nat) = 9999 + 1 from rfl, run_equalIn_struct w 9999 23 _ _ say_fields say_stood]
 simp only [Program.fieldsOf, Tryz.underlying23]
 go_simp
 unfold zeroSay
 repeat' split
 all_goals simp_all
theorem run_neqSay (k t : Int) (y : Bool) (f g : ByteArray) (e sh ta r : Int) (w : World) : (binOp .neq 23 (.agg #[.int .i64 k, .int .i64 t, .bool y, .string f, .string g, .int .i64 e, .int .i64 sh, .int .i64 ta, .int .i64 r]) (.agg #[.int .i64 0, .int .i64 0, .bool false, .string ⟨#[]⟩, .string ⟨#[]⟩, .int .i64 0, .int .i64 0, .int .i64 0, .int .i64 0])).run Tryz.prog w = .ok (.bool (!zeroSay ⟨k, t, y, f, g, e, sh, ta, r⟩)) w := by
 rw [run_neq_struct, run_eqSay ⟨k, t, y, f, g, e, sh, ta, r⟩ w]
 rfl
theorem run_eqlSay (k t : Int) (y : Bool) (f g : ByteArray) (e sh ta r : Int) (w : World) : (binOp .eql 23 (.agg #[.int .i64 k, .int .i64 t, .bool y, .string f, .string g, .int .i64 e, .int .i64 sh, .int .i64 ta, .int .i64 r]) (.agg #[.int .i64 0, .int .i64 0, .bool false, .string ⟨#[]⟩, .string ⟨#[]⟩, .int .i64 0, .int .i64 0, .int .i64 0, .int .i64 0])).run Tryz.prog w = .ok (.bool (zeroSay ⟨k, t, y, f, g, e, sh, ta, r⟩)) w := by
 rw [run_eql_struct, run_eqSay ⟨k, t, y, f, g, e, sh, ta, r⟩ w]
 rfl
end Go.Proofs.YtmkdhhhoodeemaaGreat
namespace Go.Proofs.YtmkdhhhoodeemaaGreat
open Go Go.RowKit
attribute [local go_sem ↓] run_neqSay run_eqlSay
theorem putP_of {w : World} {G D : Int} {xs : List Int} (hx : xs.length ≤ 1024) {e : Ending} {w' : World} (h : PutOut w G D xs e w') : PutP w (num8 G ++ num8 D ++ numsB xs) .nilIface e w' := by
 unfold PutOut putErr putB at h
 rw [if_pos hx, if_pos hx] at h
 exact h
theorem err_row {w : World} {g : Nat} {t : TypeId} {a b c d : Value} (h : Blk w g t #[a, b, c, d]) (ha : NilOr a) (hb : NilOr b) (hc : NilOr c) (hd : NilOr d) : ErrRow w g [a, b, c, d] := by
 intro k x hx
 match k, hx with
 | 0, hx => cases hx; exact ⟨h.cell 0, ha⟩
 | 1, hx => cases hx; exact ⟨h.cell 1, hb⟩
 | 2, hx => cases hx; exact ⟨h.cell 2, hc⟩
 | 3, hx => cases hx; exact ⟨h.cell 3, hd⟩
theorem get_fine {w : World} {bs : List Int} (h : getOk bs) {e : Ending} {w' : World} (hg : GetOut w bs e w') : ∃ x, e = .returned (.tuple #[x, .nilIface]) ∧ Fr (fun _ => False) w w' := by
 obtain ⟨⟨_, A, cap, he, _⟩ | ⟨hno, _⟩, hf⟩ := hg
 ·exact ⟨_, he, hf⟩
 ·exact absurd h hno
theorem bytes8_app {a b : List Int} (ha : Bytes8 a) (hb : Bytes8 b) : Bytes8 (a ++ b) := fun x hx => (List.mem_append.1 hx).elim (ha x) (hb x)
theorem cert_bytes (G D : Int) (xs : List Int) : Bytes8 (num8 G ++ num8 D ++ numsB xs) :=
 bytes8_app (bytes8_app (num8_bytes G) (num8_bytes D)) (bytes8_app (count4_bytes _) (fun x hx => by
  obtain ⟨y, _, h⟩ := List.mem_flatMap.1 hx
  exact num8_bytes y x h))
theorem cert_len {G D : Int} {xs : List Int} (h : xs.length ≤ 1024) : (num8 G ++ num8 D ++ numsB xs).length ≤ 9000 := by
 have := flat_num8 xs
 have e1 : (num8 G).length = 8 := by simp [num8]
 have e2 : (num8 D).length = 8 := by simp [num8]
 have e3 : (count4 (xs.length : Int)).length = 4 := rfl
 rw [List.length_append, List.length_append, numsB, List.length_append, e1, e2, e3, this]
 omega
end Go.Proofs.YtmkdhhhoodeemaaGreat
namespace Go.Proofs.YtmkdhhhoodeemaaGreat
open Go Go.RowKit
def decS (d : Int) (yes : Bool) : SayD := ⟨3, d, yes, ⟨#[]⟩, ⟨#[]⟩, 0, 0, 0, 0⟩
theorem digL_len (L : List (List Int)) (xs : List Int) : (digL L xs).length ≤ L.length + 1 := by
 unfold digL
 split <;> simp
theorem sayL_len (L : List (List Int)) (s : SayD) : (sayL L s).length ≤ L.length + 1 := by
 unfold sayL
 split
 ·exact digL_len _ _
 ·omega
def RDigOut (w : World) (g base : Nat) (v : Value) (L : List (List Int)) (xs : List Int) (e : Ending) (w' : World) : Prop :=
 ∃ v', e = .returned (.tuple #[.int .i64 (digI L xs : Nat), .int .i64 0]) ∧ RBookAt w' g base v' (digL L xs) ∧ Fr (fun k => k = g ∨ v.ownBlock = some k) w w' ∧ ∀ k, v'.ownBlock = some k → v.ownBlock = some k ∨ w.heap.size ≤ k
theorem bytes_info8 : (Tryz.prog.info? 38).map (fun i => (i.zero, i.size, i.bytes)) = some (some (.slice none 0 0), 1, 24) := by kernel_rfl
theorem idx_found {L : List (List Int)} {xs : List Int} {k : Nat} (hn : xs ∉ L.take k) (hk : L[k]? = some xs) : digI L xs = k ∧ digL L xs = L := by
 obtain ⟨hlt, he⟩ := List.getElem?_eq_some_iff.1 hk
 have hin : xs ∈ L := he ▸ List.getElem_mem hlt
 refine ⟨?_, if_pos hin⟩
 rw [digI, if_pos hin]
 have h1 : L = L.take k ++ L.drop k := (List.take_append_drop k L).symm
 have h2 : L.drop k = xs :: L.drop (k + 1) := by rw [List.drop_eq_getElem_cons hlt, he]
 rw [h1, List.idxOf_append, if_neg hn, h2, List.idxOf_cons_self, List.length_take]
 omega
theorem notin_step {L : List (List Int)} {xs y : List Int} {k : Nat} (hn : xs ∉ L.take k) (hk : L[k]? = some y) (hxy : xs ≠ y) : xs ∉ L.take (k + 1) := by
 obtain ⟨hlt, rfl⟩ := List.getElem?_eq_some_iff.1 hk
 rw [List.take_succ_eq_append_getElem hlt]
 intro h
 rcases List.mem_append.1 h with h | h
 ·exact hn h
 ·exact hxy (List.mem_singleton.1 h)
theorem own_U8 {w : World} {base : Nat} {v : Value} {xs : List Int} (h : Own8 w base v xs) : ∀ k, v.ownBlock = some k → U8 w k := by
 intro k hk
 rcases h.2 with ⟨rfl, _⟩ | ⟨g', cap, cur, rfl, _, hh, _⟩
 ·cases hk
 ·cases hk
  exact ⟨_, _, hh⟩
theorem ref03_Digest {w : World} {g base : Nat} {v : Value} {L : List (List Int)} (h : RBookAt w g base v L) (hL8 : ∀ t ∈ L, B8 t) (hbase : base ≤ w.heap.size) {F : Nat → Prop} {A : Option Addr} {cap : Nat} {xs : List Int} (hr : ByteRow w F A xs) (h8 : B8 xs) (hx : xs.length ≤ 65536) (hL : L.length < 65536) :
  Calls Tryz.prog 21 #[.pointer (some ⟨g, 0, none⟩), .slice A xs.length cap] w (RDigOut w g base v L xs) := by
 obtain ⟨vals, hown, hin⟩ := h.row
 obtain ⟨A0, cap0, rfl, _, hat⟩ := own_form hown
 have c0 : w.cell? ⟨g, 0, none⟩ = some (.slice A0 L.length cap0) := h.blk.cell 0
 have hx' : ¬ (65536 : Int) < (xs.length : Int) := by omega
 have HX := Lib.hid hx
 have HL := Lib.hid hL
 have HL8 := Lib.hid hL8
 have H8 := Lib.hid h8
 have hL3 : (L.length : Int) < 65536 := by omega
 have hL4 : decide ((65536 : Int) ≤ (L.length : Int)) = false := decide_eq_false (by omega)
 clear hx hL hL8 h8
 go_enter Tryz.func21, Tryz.ntmps21
 go_wp2_with fail
 clear hx'
 go_loopw [6] (fun i wr => ∃ k : Nat, k ≤ L.length ∧ i = .int .i64 k ∧ Hid (xs ∉ L.take k) ∧ Fr (fun _ => False) w wr) (fun i _ => L.length - (intOf i).toNat)
 case atStart => exact ⟨0, by omega, rfl, (by show _ ∉ _; simp), Fr.refl _ _⟩
 case round =>
  obtain ⟨k, hk, rfl, hn, hf⟩ := hrel
  have d0 := hf.cell_some c0 id
  by_cases hlt : k < L.length
  ·obtain ⟨y, hy⟩ : ∃ y, L[k]? = some y := ⟨L[k], List.getElem?_eq_getElem hlt⟩
   obtain ⟨A1, cap1, hv1, hr1⟩ := hin k y hy
   obtain ⟨b, rfl, _, hc⟩ := hat k _ hv1
   have d1 := hf.cell_some hc id
   have hcv1 := fun n => conv_bytes (w := wr.drewN n) (n := y.length) (cap := cap1) ((hr1.fr hf (fun _ _ => id)).fr ((Fr.refl (fun _ => False) wr).drewN n) (fun _ _ => id)) rfl
   have hcv2 := fun n => conv_bytes (w := wr.drewN n) (n := xs.length) (cap := cap) ((hr.fr hf (fun _ _ => id)).fr ((Fr.refl (fun _ => False) wr).drewN n) (fun _ _ => id)) rfl
   have HY := Lib.hid hy
   clear hat hin hr hc c0 hr1 hv1 hy
   by_cases hxy : xs = y
   ·subst hxy
    obtain ⟨e1, e2⟩ := idx_found hn.out HY.out
    unfold RDigOut
    rw [e1, e2]
    clear e1 e2
    go_wp2_with fail
    go_big_quiet (fail)
    go_wp2_with fail
    refine bodyPost_ret (v := .tuple #[.int .i64 k, .int .i64 0]) (by simp [results, Tryz.results21, go_sem]) rfl ?_
    have hfw := hf.drewN nq
    exact ⟨_, rfl, h.keep hfw, hfw.mono (fun _ _ h => h.elim), fun k hk => .inl hk⟩
   ·have hs : strOfNums y ≠ strOfNums xs := fun e => hxy (strOf_inj (HL8.out y (List.mem_of_getElem? HY.out)) H8.out e).symm
    have b1 : ((strOfNums y).toList == (strOfNums xs).toList) = false := by
     apply Bool.eq_false_iff.2
     intro hh
     exact hs (ByteArray.ext (Array.ext' (by have := eq_of_beq hh; rwa [ByteArray.toList_eq, ByteArray.toList_eq] at this)))
    have HXY := Lib.hid hxy
    clear hs hxy
    go_wp2_with fail
    go_big_quiet (fail)
    go_wp2_with fail
    go_roundw
    case rel => exact ⟨k + 1, by omega, by go_num, notin_step hn.out HY.out HXY.out, hf.drewN _⟩
    case measure => simp [intOf]; omega
  ·obtain rfl : k = L.length := by omega
   have hnin : Hid (xs ∉ L) := by have := hn.out; rwa [List.take_length] at this
   have HE1 : Hid (digI L xs = L.length) := if_neg hnin.out
   have HE2 : Hid (digL L xs = L ++ [xs]) := if_neg hnin.out
   have hb1 := h.blk.fr hf id
   have ho1 := own_fr hown hf (fun _ _ => id)
   have hr1 := hr.fr hf (fun _ _ => id)
   have HIN : Hid (∀ (k : Nat) s, L[k]? = some s → ∃ A cap, vals[k]? = some (.slice A s.length cap) ∧ ByteRow wr (U8 wr) A s) := fun k s hs => by
    obtain ⟨A1, q1, h1, h2⟩ := hin k s hs
    exact ⟨A1, q1, h1, h2.u8 hf (fun _ _ => id)⟩
   -- the new text
   have hc2 : (wr.alloc (Obj.cells #[] 5)).cell? ⟨g, 0, none⟩ = some (.slice A0 L.length cap0) := (hb1.alloc _).cell 0
   have hr2 := hr1.fr (((Fr.refl (fun _ => False) wr).alloc (Obj.cells #[] 5)).drew) (fun _ _ => id)
   have hb2 := (hb1.alloc (Obj.cells #[] 5)).drew
   have hbs2 : wr.heap.size ≤ (wr.alloc (Obj.cells #[] 5)).drew.heap.size := by simp
   have hbw : base ≤ wr.heap.size := Nat.le_trans hbase hf.size
   have hsx : (xs.length : Int) ≤ 65536 := by have := HX.out; omega
   clear hat hin hr hn hlt c0
   go_upto_region 10 with fail
   have hnew : Own8 (wr.alloc (Obj.cells #[] 5)).drew wr.heap.size (.slice (some ⟨wr.heap.size, 0, none⟩) 0 0) [] := (Own8.built wr (Nat.le_refl _) [] (by simp) 0 rfl).drew
   have hlg := hb1.lt
   go_region_law (first | (refine step_append_gen rfl (.tmp 41) (.tmp 45) 55 38 rfl Tryz.underlying55 bytes_info8 rfl base (.slice A0 L.length cap0) L.length vals (by rfl) ho6 ⟨w5.heap.size, 0, none⟩ 1 1 [.slice A5 xs.length p5] (by rfl) rfl hone6 (fun u hu => by rw [List.mem_singleton.1 hu]; rfl) (by have := HL.out; omega) (by decide) hbs6 ?_; intro v7 w7 h7 hf7 hk7; obtain ⟨A7, p7, rfl, _, _⟩ := own_form h7; have hb7 := hb6.fr hf7 (own_ne_blk ho6 hb6 (by decide)); have d7 := hb7.cell 0; have z7 := hb7.frozen 0) | (refine step_append_text rfl (.tmp 42) (.tmp 43) rfl wr.heap.size (.slice (some ⟨wr.heap.size, 0, none⟩) 0 0) [] (by rfl) hnew F A xs.length cap xs (by rfl) rfl hr2 (by have := HX.out; simp; omega) hbs2 ?_; intro v5 w5 h5 hf5 hk5; have h5 : Own8 w5 wr.heap.size v5 xs := h5; obtain ⟨A5, p5, rfl, _, hr5⟩ := h5.form; have hf15 : Fr (fun _ => False) wr w5 := (((Fr.refl (fun _ => False) wr).alloc (Obj.cells #[] 5)).drew).trans hf5 (fun k hk e => by cases e; exact absurd hk (Nat.lt_irrefl _)); have hf16 := hf15.alloc (Obj.cells #[Value.slice A5 xs.length p5] 38); have hb5 := hb1.fr hf15 id; have hb6 := hb1.fr hf16 id; have c5 : w5.cell? ⟨g, 0, none⟩ = some (.slice A0 L.length cap0) := hb5.cell 0; have c6 : (w5.alloc (Obj.cells #[Value.slice A5 xs.length p5] 38)).cell? ⟨g, 0, none⟩ = some (.slice A0 L.length cap0) := hb6.cell 0; have ho6 := own_fr ho1 hf16 (fun _ _ => id); have hone6 := new_one w5 38 (Value.slice A5 xs.length p5); have hbs6 := Nat.le_trans hbw hf16.size))
   all_goals go_wp2_with fail
   all_goals refine bodyPost_ret (v := .tuple #[.int .i64 L.length, .int .i64 0]) (by simp [results, Tryz.results21, go_sem]) rfl ?_
   all_goals
    have hf78 : Fr (fun k => k = g) w7 (w7.setCell ⟨g, 0, none⟩ (.slice A7 (L.length + 1) p7)) := (Fr.refl (fun k => k = g) w7).setCell (p := ⟨g, 0, none⟩) (fun _ => rfl) _
    have hu6 : ∀ b, U8 (w5.alloc (Obj.cells #[Value.slice A5 xs.length p5] 38)) b → ¬ ((Value.slice A0 L.length cap0).ownBlock = some b) := fun b hb => hb.ne_own ho6 (by decide)
    have hu7 : ∀ b, U8 w7 b → ¬ b = g := fun b hb => hb.ne_blk hb7 (by decide)
    have hx5 : ByteRow w5 (U8 w5) A5 xs := fun k x hx => by
     obtain ⟨b, o, e, h1, hc⟩ := hr5 k x hx
     exact ⟨b, o, e, own_U8 h5 b h1, hc⟩
    have hx6 : ByteRow (w5.alloc (Obj.cells #[Value.slice A5 xs.length p5] 38)) (U8 (w5.alloc (Obj.cells #[Value.slice A5 xs.length p5] 38))) A5 xs := hx5.u8 ((Fr.refl (fun _ => False) w5).alloc _) (fun _ _ => id)
    have hx8 := (hx6.u8 hf7 hu6).u8 hf78 hu7
    have hlv : vals.length = L.length := by have := hown.1; omega
    unfold RDigOut
    rw [HE1.out, HE2.out]
    refine ⟨_, rfl, ⟨hb7.set_ 0 _, vals ++ [.slice A5 xs.length p5], ?_, ?_⟩, ?_, ?_⟩
    ·rw [List.length_append]
     exact own_fr h7 hf78 (fun k hk e => own_ne_blk h7 hb7 (by decide) (e ▸ hk))
    ·intro k s hs
     by_cases hk : k < L.length
     ·rw [List.getElem?_append_left hk] at hs
      obtain ⟨A1, q1, h1, h2⟩ := HIN.out k s hs
      exact ⟨A1, q1, by rw [List.getElem?_append_left (by omega)]; exact h1, ((h2.u8 hf16 (fun _ _ => id)).u8 hf7 hu6).u8 hf78 hu7⟩
     ·rw [List.getElem?_append_right (Nat.not_lt.1 hk)] at hs
      rcases hkk : k - L.length with _ | q
      ·rw [hkk] at hs
       obtain rfl := Option.some.inj hs
       exact ⟨A5, p5, by rw [List.getElem?_append_right (by omega), hlv, hkk]; rfl, hx8⟩
      ·rw [hkk] at hs
       simp at hs
    ·exact (((hf.mono (fun _ _ h => h.elim)).then_ hf16).trans hf7 (fun k _ e => .inr e)).trans hf78 (fun k _ e => .inl e)
    ·intro k hk
     rcases hk7 with e | e
     ·exact .inl (e.symm.trans hk)
     ·rw [hk] at e
      cases e
      refine .inr ?_
      have h1 := hf.size
      have h2 := hf16.size
      omega
theorem group_spec (who : Int) : (groupOf who = -1 ∧ placeOf who = -1 ∧ ∀ g i : Int, 0 ≤ g → g < 8 → 0 ≤ i → i < 10 → (memberOf g i == who) = false) ∨
  (∃ G Q : Nat, G < 8 ∧ Q < 10 ∧ groupOf who = G ∧ placeOf who = Q ∧ (memberOf G Q == who) = true ∧ ∀ g i : Int, 0 ≤ g → g < 8 → 0 ≤ i → i < 10 → ¬ (g = G ∧ i = Q) → (memberOf g i == who) = false) := by
 by_cases h : who < 100 ∨ 8 ≤ (who - 100) / 16 ∨ 10 ≤ (who - 100) % 16
 ·refine .inl ⟨by simp only [groupOf, if_pos h], by simp only [placeOf, if_pos h], fun g i h1 h2 h3 h4 => ?_⟩
  rw [beq_eq_false_iff_ne, memberOf, if_neg (by omega)]
  omega
 ·refine .inr ⟨((who - 100) / 16).toNat, ((who - 100) % 16).toNat, by omega, by omega, by simp only [groupOf, if_neg h]; omega, by simp only [placeOf, if_neg h]; omega, ?_, fun g i h1 h2 h3 h4 h5 => ?_⟩
  ·rw [beq_iff_eq, memberOf, if_neg (by omega)]
   omega
  ·rw [beq_eq_false_iff_ne, memberOf, if_neg (by omega)]
   omega
theorem ref04_Group (who : Int) (w : World) : Calls Tryz.prog 73 #[.int .i64 who] w fun e w' => e = .returned (.tuple #[.int .i64 (groupOf who), .int .i64 (placeOf who)]) ∧ w = w' := by
 rcases group_spec who with ⟨e1, e2, hno⟩ | ⟨G, Q, hG, hQ, e1, e2, hyes, hno⟩
 ·rw [e1, e2]
  clear e1 e2
  go_enter Tryz.func73, Tryz.ntmps73
  go_wp2
  go_loop [4] (fun g => ∃ k : Nat, k ≤ 8 ∧ g = .int .i64 k) (fun g => 8 - (intOf g).toNat)
  case atStart => exact ⟨0, by omega, rfl⟩
  case round =>
   obtain ⟨k, hk, rfl⟩ := hrel
   by_cases hlt : k < 8
   ·go_wp2
    go_loop [5] (fun i => ∃ j : Nat, j ≤ 10 ∧ i = .int .i64 j) (fun i => 10 - (intOf i).toNat)
    case atStart => exact ⟨0, by omega, rfl⟩
    case round =>
     obtain ⟨j, hj, rfl⟩ := hrel
     by_cases hl2 : j < 10
     ·have ht := hno k j (by omega) (by omega) (by omega) (by omega)
      go_wp2_with (go_at_call 37; refine (ref04_Member k j _).mono ?_; rintro e w' ⟨rfl, rfl⟩)
      go_round
      case rel => exact ⟨j + 1, by omega, by go_num⟩
      case measure => simp [intOf]; omega
     ·obtain rfl : j = 10 := by omega
      go_wp2
      go_round
      case rel => exact ⟨k + 1, by omega, by go_num⟩
      case measure => simp [intOf]; omega
   ·obtain rfl : k = 8 := by omega
    go_wp2
    go_ret2
    exact ⟨rfl, rfl⟩
 ·rw [e1, e2]
  clear e1 e2
  go_enter Tryz.func73, Tryz.ntmps73
  go_wp2
  go_loop [4] (fun g => ∃ k : Nat, k ≤ G ∧ g = .int .i64 k) (fun g => 8 - (intOf g).toNat)
  case atStart => exact ⟨0, by omega, rfl⟩
  case round =>
   obtain ⟨k, hk, rfl⟩ := hrel
   have hlt : k < 8 := by omega
   go_wp2
   go_loop [5] (fun i => ∃ j : Nat, j ≤ 10 ∧ (k = G → j ≤ Q) ∧ i = .int .i64 j) (fun i => 10 - (intOf i).toNat)
   case atStart => exact ⟨0, by omega, fun _ => by omega, rfl⟩
   case round =>
    obtain ⟨j, hj, hjQ, rfl⟩ := hrel
    by_cases hl2 : j < 10
    ·by_cases he : k = G ∧ j = Q
     ·obtain ⟨rfl, rfl⟩ := he
      clear hjQ hno
      go_wp2_with (go_at_call 37; refine (ref04_Member k j _).mono ?_; rintro e w' ⟨rfl, rfl⟩)
      go_ret2
      exact ⟨rfl, rfl⟩
     ·have ht := hno k j (by omega) (by omega) (by omega) (by omega) (by omega)
      have HQ : Hid (k = G → j + 1 ≤ Q) := fun e => by have := hjQ e; omega
      clear hjQ hno hyes
      go_wp2_with (go_at_call 37; refine (ref04_Member k j _).mono ?_; rintro e w' ⟨rfl, rfl⟩)
      go_round
      case rel => exact ⟨j + 1, by omega, HQ.out, by go_num⟩
      case measure => simp [intOf]; omega
    ·obtain rfl : j = 10 := by omega
     have hkG : k + 1 ≤ G := by
      by_cases e : k = G
      ·have := hjQ e; omega
      ·omega
     clear hjQ hno hyes
     go_wp2
     go_round
     case rel => exact ⟨k + 1, by omega, by go_num⟩
     case measure => simp [intOf]; omega
structure RefAt (w : World) (g base : Nat) (v : Value) (L : List (Int × Int)) : Prop where
 blk : Blk w g 89 #[v]
 own : w.ownsRow base 159 2 v L.length (pairCells L)
theorem RefAt.fr {S : Nat → Prop} {w w' : World} {g base : Nat} {v : Value} {L : List (Int × Int)} (h : RefAt w g base v L) (hf : Fr S w w') (hg : ¬ S g) (hv : ∀ k, v.ownBlock = some k → ¬ S k) : RefAt w' g base v L := ⟨h.blk.fr hf hg, own_fr h.own hf hv⟩
theorem ref04_Signed {w : World} {g base : Nat} {v : Value} {L : List (Int × Int)} (h : RefAt w g base v L) (hL : L.length ≤ 1099511627776) (who d : Int) :
  Calls Tryz.prog 63 #[.pointer (some ⟨g, 0, none⟩), .int .i64 who, .int .i64 d] w fun e w' => e = .returned (.bool (decide ((who, d) ∈ L))) ∧ w = w' := by
 obtain ⟨A, cap, rfl, hcap, hat⟩ := own_form h.own
 have hc := h.blk.cell 0
 go_enter Tryz.func63, Tryz.ntmps63
 go_wp2
 go_loop [7] (fun i => ∃ k : Nat, k ≤ L.length ∧ i = .int .i64 k ∧ (who, d) ∉ L.take k) (fun i => L.length - (intOf i).toNat)
 case atStart => exact ⟨0, by omega, rfl, by simp⟩
 case round =>
  obtain ⟨k, hk, rfl, hno⟩ := hrel
  by_cases hlt : k < L.length
  ·obtain ⟨p, hp⟩ : ∃ p, L[k]? = some p := ⟨L[k], List.getElem?_eq_getElem hlt⟩
   obtain ⟨q0, q1⟩ := pairCells_at L k p hp
   obtain ⟨b, rfl, _, h0⟩ := hat _ _ q0
   obtain ⟨b', hb', _, h1⟩ := hat _ _ q1
   cases hb'
   clear hat q0 q1
   by_cases e0 : p.1 = who
   ·by_cases e1 : p.2 = d
    ·have hmem : (who, d) ∈ L := by
      obtain ⟨p1, p2⟩ := p
      simp only at e0 e1
      subst e0; subst e1
      exact List.mem_of_getElem? hp
     have t0 : (p.1 == who) = true := by simpa using e0
     have t1 : (p.2 == d) = true := by simpa using e1
     clear e0 e1 hno hp
     go_wp2
     go_ret
     exact ⟨rfl, rfl⟩
    ·have HN : Hid ((who, d) ∉ L.take (k + 1)) := notin_take_succ hno hp (fun e => e1 (by rw [e]))
     have t0 : (p.1 == who) = true := by simpa using e0
     have t1 : (p.2 == d) = false := by simpa using e1
     clear e0 e1 hno hp
     go_wp2
     go_round
     case rel => exact ⟨k + 1, by omega, by go_num, HN.out⟩
     case measure => simp [intOf]; omega
   ·have HN : Hid ((who, d) ∉ L.take (k + 1)) := notin_take_succ hno hp (fun e => e0 (by rw [e]))
    have t0 : (p.1 == who) = false := by simpa using e0
    clear e0 hno hp
    go_wp2
    go_round
    case rel => exact ⟨k + 1, by omega, by go_num, HN.out⟩
    case measure => simp [intOf]; omega
  ·obtain rfl : k = L.length := by omega
   have hno' : (who, d) ∉ L := by simpa using hno
   clear hno
   go_wp2
   go_ret
   exact ⟨by simp, rfl⟩
def signCode (who d : Int) (L : List (Int × Int)) : Int := if signBad who d = true then 1 else if (who, d) ∈ L then 0 else if ((L.length : Int) == 131072) = true then 2 else 0
theorem refSeal_info : (Tryz.prog.info? 159).map (fun i => (i.zero, i.size, i.bytes)) = some (some (.agg #[.int .i64 0, .int .i64 0]), 2, 16) := by kernel_rfl
section
variable {who d : Int} {L : List (Int × Int)}
theorem signC_bad (h : (clientOf who < 0 ∧ groupOf who < 0) ∨ d < 0) : signCode who d L = 1 ∧ signL who d L = L := by
 simp [signCode, signL, signBad, h]
theorem signC_in (h : ¬ ((clientOf who < 0 ∧ groupOf who < 0) ∨ d < 0)) (hm : (who, d) ∈ L) : signCode who d L = 0 ∧ signL who d L = L := by
 simp [signCode, signL, signBad, h, hm]
theorem signC_new (h : ¬ ((clientOf who < 0 ∧ groupOf who < 0) ∨ d < 0)) (hm : (who, d) ∉ L) (hl : ((L.length : Int) == 131072) = false) : signCode who d L = 0 ∧ signL who d L = L ++ [(who, d)] := by
 simp only [signCode, signL, signBad, h, hm, hl]
 simp
end
def RefSigned (g base : Nat) (v : Value) (who d : Int) (L : List (Int × Int)) (w : World) (e : Ending) (w' : World) : Prop :=
 ∃ v', e = .returned (.int .i64 (signCode who d L)) ∧ RefAt w' g base v' (signL who d L) ∧ Fr (fun k => k = g ∨ v.ownBlock = some k) w w'
theorem ref04_Sign {w : World} {g base : Nat} {v : Value} {L : List (Int × Int)} (h : RefAt w g base v L) (hbase : base ≤ w.heap.size) (hL : L.length < 131072) (who d : Int) :
  Calls Tryz.prog 39 #[.pointer (some ⟨g, 0, none⟩), .int .i64 who, .int .i64 d] w (RefSigned g base v who d L w) := by
 obtain ⟨A, cap, rfl, hcap, hat⟩ := own_form h.own
 clear hat
 have hc := h.blk.cell 0
 have HL : Hid (L.length < 131072) := hL
 have ht : decide ((131072 : Int) ≤ (L.length : Int)) = false := decide_eq_false (by omega)
 clear hL
 go_enter Tryz.func39, Tryz.ntmps39
 go_wp2_with (first
  | (go_at_call 73; refine (ref04_Group who _).mono ?_; rintro e w' ⟨rfl, rfl⟩)
  | (go_at_call 74; refine (ref04_Client who _).mono ?_; rintro e w' ⟨rfl, rfl⟩)
  | (go_at_call 63; refine (ref04_Signed h (by have := HL.out; omega) who d).mono ?_; rintro e w' ⟨rfl, rfl⟩)
  | (at_builtin; go_loud (refine wpList_append_el _ rfl _ _ _ rfl base 159 (.agg #[.int .i64 0, .int .i64 0]) 2 16 Tryz.underlying87 refSeal_info rfl (by omega) (.slice A L.length cap) _ _ rfl (h.own.alloc _) w.heap.size [.int .i64 who, .int .i64 d] rfl rfl ?_ ?_ ?_ (by omega) ?_ ?_); (· exact cell_two _ _ _ _); (· simp [Value.oneCell']); (· have := HL.out; omega); (· simp; omega); intro g2 c2 w2 hown2 hf2; (have hb2 := (h.blk.alloc _).fr hf2 (own_ne_blk h.own h.blk (by decide))); have hc2 := hb2.cell 0; have hz2 := hb2.frozen 0))
 all_goals go_ret
 all_goals unfold RefSigned
 all_goals first
  | (obtain ⟨q1, q2⟩ := signC_bad (L := L) (show (clientOf who < 0 ∧ groupOf who < 0) ∨ d < 0 by omega); rw [q1, q2]; exact ⟨_, rfl, h, Fr.refl _ _⟩)
  | (obtain ⟨q1, q2⟩ := signC_in (L := L) (show ¬ ((clientOf who < 0 ∧ groupOf who < 0) ∨ d < 0) by omega) ‹_›; rw [q1, q2]; exact ⟨_, rfl, h, Fr.refl _ _⟩)
  | (obtain ⟨q1, q2⟩ := signC_new (L := L) (show ¬ ((clientOf who < 0 ∧ groupOf who < 0) ∨ d < 0) by omega) ‹_› (beq_eq_false_iff_ne.2 (by have := HL.out; omega)); rw [q1, q2]; refine ⟨_, rfl, ⟨hb2.set_ 0 _, ?_⟩, ?_⟩; (· rw [pairCells_snoc, List.length_append]; exact own_setCell hown2 hb2 (by decide) _ _); exact (((Fr.refl _ _).alloc _).trans hf2 (fun _ _ hx => .inr hx)).setCell (fun _ => .inl rfl) _)
def Other (t : TypeId) : Prop := t ≠ 125 ∧ t ≠ 9 ∧ t ≠ 57 ∧ t ≠ 38 ∧ t ≠ 89 ∧ t ≠ 159
instance (t : TypeId) : Decidable (Other t) := by unfold Other; infer_instance
structure St (lo : Nat) (w w' : World) : Prop where
 fr : Fr (fun k => lo ≤ k) w w'
 blk : ∀ k t cs, Blk w k t cs → Other t → Blk w' k t cs
theorem St.of (lo : Nat) {w w' : World} (h : Fr (fun _ => False) w w') : St lo w w' := ⟨h.mono (fun _ _ h => h.elim), fun _ _ _ hB _ => hB.fr h id⟩
theorem St.trans {lo : Nat} {a b c : World} (h : St lo a b) (k : St lo b c) : St lo a c := ⟨h.fr.trans k.fr (fun _ _ h => h), fun x t cs hB ho => k.blk x t cs (h.blk x t cs hB ho) ho⟩
theorem own_cells {w : World} {base : Nat} {e : TypeId} {size n : Nat} {v : Value} {xs : List Value} (h : w.ownsRow base e size v n xs) {k : Nat} (hk : v.ownBlock = some k) : ∃ cs, Blk w k e cs := by
 rcases h.2 with ⟨rfl, _⟩ | ⟨g', cap, cur, rfl, _, hh, _⟩
 ·cases hk
 ·cases hk
  exact ⟨_, hh⟩
theorem own_st {lo : Nat} {w w' : World} {base : Nat} {e : TypeId} {size : Nat} {v : Value} {n : Nat} {xs : List Value} (h : w.ownsRow base e size v n xs) (hs : St lo w w') (ho : Other e) : w'.ownsRow base e size v n xs := by
 refine ⟨h.1, ?_⟩
 rcases h.2 with hn | ⟨g, cap, cur, rfl, hb, hgg, rest⟩
 ·exact .inl hn
 ·exact .inr ⟨g, cap, cur, rfl, hb, hs.blk _ _ _ hgg ho, rest⟩
theorem cells_inj {w : World} {k : Nat} {cs cs' : Array Value} {t t' : TypeId} {f f' : Nat × Nat} (h : w.heap[k]? = some (.cells cs t f)) (h' : w.heap[k]? = some (.cells cs' t' f')) : t = t' := by
 rw [h] at h'
 injection h' with h'
 injection h' with _ h2
theorem bs_ne {w : World} {g m base : Nat} {v : Value} {L : List (List Int)} {gs ms : Nat} {SL : List (Int × Int)} (h : BS w g m base v L gs ms SL) {k : Nat} {cs : Array Value} {t : TypeId} {f : Nat × Nat} (hk : w.heap[k]? = some (.cells cs t f)) (h1 : t ≠ 125) (h2 : t ≠ 9) : ¬ (k = g ∨ k = m ∨ v.ownBlock = some k ∨ k = ms) := by
 rintro (rfl | rfl | e | rfl)
 ·exact h1 (cells_inj hk h.book.blk)
 ·obtain ⟨⟨es, cl, h3, _⟩, _⟩ := h.book.map
  rw [hk] at h3
  cases h3
 ·obtain ⟨cs', hB⟩ := own_cells h.book.own e
  exact h2 (cells_inj hk hB)
 ·obtain ⟨es, cl, h3, _⟩ := h.seals.map
  rw [hk] at h3
  cases h3
theorem u8_ne_bs {w : World} {g m base : Nat} {v : Value} {L : List (List Int)} {gs ms : Nat} {SL : List (Int × Int)} (h : BS w g m base v L gs ms SL) (k : Nat) (hk : U8 w k) : ¬ (k = g ∨ k = m ∨ v.ownBlock = some k ∨ k = ms) := by
 obtain ⟨cs, f, h1⟩ := hk
 exact bs_ne h h1 (by decide) (by decide)
theorem rb_ne {w : World} {g base : Nat} {v : Value} {L : List (List Int)} (h : RBookAt w g base v L) {k : Nat} {o : Obj} (hk : w.heap[k]? = some o) (ho : ∀ cs t f, o = .cells cs t f → t ≠ 57 ∧ t ≠ 38) : ¬ (k = g ∨ v.ownBlock = some k) := by
 obtain ⟨vals, hown, _⟩ := h.row
 rintro (rfl | e)
 ·exact (ho _ _ _ (Option.some.inj (hk.symm.trans h.blk))).1 rfl
 ·obtain ⟨cs', hB⟩ := own_cells hown e
  exact (ho _ _ _ (Option.some.inj (hk.symm.trans hB))).2 rfl
theorem rq_ne {w : World} {g base : Nat} {v : Value} {L : List (Int × Int)} (h : RefAt w g base v L) {k : Nat} {o : Obj} (hk : w.heap[k]? = some o) (ho : ∀ cs t f, o = .cells cs t f → t ≠ 89 ∧ t ≠ 159) : ¬ (k = g ∨ v.ownBlock = some k) := by
 rintro (rfl | e)
 ·exact (ho _ _ _ (Option.some.inj (hk.symm.trans h.blk))).1 rfl
 ·obtain ⟨cs', hB⟩ := own_cells h.own e
  exact (ho _ _ _ (Option.some.inj (hk.symm.trans hB))).2 rfl
theorem tcell {cs cs' : Array Value} {t t' : TypeId} {f f' : Nat × Nat} {p q : TypeId} (e : Obj.cells cs t f = Obj.cells cs' t' f') (h1 : t ≠ p) (h2 : t ≠ q) : t' ≠ p ∧ t' ≠ q := by
 injection e with _ h
 subst h
 exact ⟨h1, h2⟩
structure WSAt (w : World) (lo gw g m base : Nat) (v : Value) (L : List (List Int)) (gs ms : Nat) (SL : List (Int × Int)) (gD bD : Nat) (vD : Value) (LD : List (List Int)) (gQ bQ : Nat) (vQ : Value) (SQ : List (Int × Int)) : Prop where
 blk : Blk w gw 51 #[.pointer (some ⟨g, 0, none⟩), .pointer (some ⟨gs, 0, none⟩), .pointer (some ⟨gD, 0, none⟩), .pointer (some ⟨gQ, 0, none⟩)]
 bs : BS w g m base v L gs ms SL
 rb : RBookAt w gD bD vD LD
 rq : RefAt w gQ bQ vQ SQ
 lo_g : lo ≤ g
 lo_m : lo ≤ m
 lo_b : lo ≤ base
 lo_s : lo ≤ ms
 lo_D : lo ≤ gD
 lo_bD : lo ≤ bD
 lo_Q : lo ≤ gQ
 lo_bQ : lo ≤ bQ
 b_le : base ≤ w.heap.size
 bD_le : bD ≤ w.heap.size
 bQ_le : bQ ≤ w.heap.size
section
variable {w w' : World} {lo gw g m base : Nat} {v v' : Value} {L L' : List (List Int)} {gs ms : Nat} {SL SL' : List (Int × Int)} {gD bD : Nat} {vD vD' : Value} {LD LD' : List (List Int)} {gQ bQ : Nat} {vQ vQ' : Value} {SQ SQ' : List (Int × Int)}
theorem WSAt.keep (h : WSAt w lo gw g m base v L gs ms SL gD bD vD LD gQ bQ vQ SQ) (hf : Fr (fun _ => False) w w') : WSAt w' lo gw g m base v L gs ms SL gD bD vD LD gQ bQ vQ SQ :=
 ⟨h.blk.fr hf id, h.bs.keep hf, h.rb.keep hf, h.rq.fr hf id (fun _ _ => id), h.lo_g, h.lo_m, h.lo_b, h.lo_s, h.lo_D, h.lo_bD, h.lo_Q, h.lo_bQ, Nat.le_trans h.b_le hf.size, Nat.le_trans h.bD_le hf.size, Nat.le_trans h.bQ_le hf.size⟩
theorem WSAt.step (h : WSAt w lo gw g m base v L gs ms SL gD bD vD LD gQ bQ vQ SQ) (hb : BS w' g m base v' L' gs ms SL') (hf : Fr (fun k => k = g ∨ k = m ∨ v.ownBlock = some k ∨ k = ms) w w') :
  WSAt w' lo gw g m base v' L' gs ms SL' gD bD vD LD gQ bQ vQ SQ ∧ St lo w w' := by
 have hne := fun {k cs t f} => bs_ne (k := k) (cs := cs) (t := t) (f := f) h.bs
 refine ⟨⟨h.blk.fr hf (hne h.blk (by decide) (by decide)), hb, h.rb.fr hf (hne h.rb.blk (by decide) (by decide)) ?_ (u8_ne_bs h.bs), h.rq.fr hf (hne h.rq.blk (by decide) (by decide)) ?_, h.lo_g, h.lo_m, h.lo_b, h.lo_s, h.lo_D, h.lo_bD, h.lo_Q, h.lo_bQ, Nat.le_trans h.b_le hf.size, Nat.le_trans h.bD_le hf.size, Nat.le_trans h.bQ_le hf.size⟩, hf.mono ?_, fun k t cs hB ho => hB.fr hf (hne hB ho.1 ho.2.1)⟩
 ·intro k hk
  obtain ⟨vals, hown, _⟩ := h.rb.row
  obtain ⟨cs, hB⟩ := own_cells hown hk
  exact hne hB (by decide) (by decide)
 ·intro k hk
  obtain ⟨cs, hB⟩ := own_cells h.rq.own hk
  exact hne hB (by decide) (by decide)
 ·intro k _ e
  rcases e with rfl | rfl | e | rfl
  ·exact h.lo_g
  ·exact h.lo_m
  ·exact Nat.le_trans h.lo_b (own_ge h.bs.book.own k e)
  ·exact h.lo_s
theorem WSAt.stepD (h : WSAt w lo gw g m base v L gs ms SL gD bD vD LD gQ bQ vQ SQ) (hb : RBookAt w' gD bD vD' LD') (hf : Fr (fun k => k = gD ∨ vD.ownBlock = some k) w w') :
  WSAt w' lo gw g m base v L gs ms SL gD bD vD' LD' gQ bQ vQ SQ ∧ St lo w w' := by
 have hne := fun {k o} => rb_ne (k := k) (o := o) h.rb
 have hc := fun {k cs t} (hB : Blk w k t cs) (h1 : t ≠ 57) (h2 : t ≠ 38) => hne hB (fun cs' t' f e => tcell e h1 h2)
 refine ⟨⟨h.blk.fr hf (hc h.blk (by decide) (by decide)), ⟨h.bs.book.fr hf (hc h.bs.book.blk (by decide) (by decide)) ?_ ?_, h.bs.seals.fr hf (hc h.bs.seals.blk (by decide) (by decide)) ?_, h.bs.ne⟩, hb, h.rq.fr hf (hc h.rq.blk (by decide) (by decide)) ?_, h.lo_g, h.lo_m, h.lo_b, h.lo_s, h.lo_D, h.lo_bD, h.lo_Q, h.lo_bQ, Nat.le_trans h.b_le hf.size, Nat.le_trans h.bD_le hf.size, Nat.le_trans h.bQ_le hf.size⟩, hf.mono ?_, fun k t cs hB ho => hB.fr hf (hc hB ho.2.2.1 ho.2.2.2.1)⟩
 ·obtain ⟨⟨es, cl, h3, _⟩, _⟩ := h.bs.book.map
  exact hne h3 (fun _ _ _ e => by cases e)
 ·intro k hk
  obtain ⟨cs, hB⟩ := own_cells h.bs.book.own hk
  exact hc hB (by decide) (by decide)
 ·obtain ⟨es, cl, h3, _⟩ := h.bs.seals.map
  exact hne h3 (fun _ _ _ e => by cases e)
 ·intro k hk
  obtain ⟨cs, hB⟩ := own_cells h.rq.own hk
  exact hc hB (by decide) (by decide)
 ·intro k _ e
  obtain ⟨vals, hown, _⟩ := h.rb.row
  rcases e with rfl | e
  ·exact h.lo_D
  ·exact Nat.le_trans h.lo_bD (own_ge hown k e)
theorem WSAt.stepQ (h : WSAt w lo gw g m base v L gs ms SL gD bD vD LD gQ bQ vQ SQ) (hb : RefAt w' gQ bQ vQ' SQ') (hf : Fr (fun k => k = gQ ∨ vQ.ownBlock = some k) w w') :
  WSAt w' lo gw g m base v L gs ms SL gD bD vD LD gQ bQ vQ' SQ' ∧ St lo w w' := by
 have hne := fun {k o} => rq_ne (k := k) (o := o) h.rq
 have hc := fun {k cs t} (hB : Blk w k t cs) (h1 : t ≠ 89) (h2 : t ≠ 159) => hne hB (fun cs' t' f e => tcell e h1 h2)
 refine ⟨⟨h.blk.fr hf (hc h.blk (by decide) (by decide)), ⟨h.bs.book.fr hf (hc h.bs.book.blk (by decide) (by decide)) ?_ ?_, h.bs.seals.fr hf (hc h.bs.seals.blk (by decide) (by decide)) ?_, h.bs.ne⟩, h.rb.fr hf (hc h.rb.blk (by decide) (by decide)) ?_ ?_, hb, h.lo_g, h.lo_m, h.lo_b, h.lo_s, h.lo_D, h.lo_bD, h.lo_Q, h.lo_bQ, Nat.le_trans h.b_le hf.size, Nat.le_trans h.bD_le hf.size, Nat.le_trans h.bQ_le hf.size⟩, hf.mono ?_, fun k t cs hB ho => hB.fr hf (hc hB ho.2.2.2.2.1 ho.2.2.2.2.2)⟩
 ·obtain ⟨⟨es, cl, h3, _⟩, _⟩ := h.bs.book.map
  exact hne h3 (fun _ _ _ e => by cases e)
 ·intro k hk
  obtain ⟨cs, hB⟩ := own_cells h.bs.book.own hk
  exact hc hB (by decide) (by decide)
 ·obtain ⟨es, cl, h3, _⟩ := h.bs.seals.map
  exact hne h3 (fun _ _ _ e => by cases e)
 ·intro k hk
  obtain ⟨vals, hown, _⟩ := h.rb.row
  obtain ⟨cs, hB⟩ := own_cells hown hk
  exact hc hB (by decide) (by decide)
 ·intro k ⟨cs, f, h1⟩
  exact hne h1 (fun cs' t' f e => tcell e (by decide) (by decide))
 ·intro k _ e
  rcases e with rfl | e
  ·exact h.lo_Q
  ·exact Nat.le_trans h.lo_bQ (own_ge h.rq.own k e)
end
def WS (w : World) (lo gw : Nat) (L : List (List Int)) (SL : List (Int × Int)) (LD : List (List Int)) (nQ : Nat) : Prop :=
 ∃ g m base v gs ms gD bD vD gQ bQ vQ SQ, WSAt w lo gw g m base v L gs ms SL gD bD vD LD gQ bQ vQ SQ ∧ SQ.length ≤ nQ
theorem WS.keep {w w' : World} {lo gw : Nat} {L : List (List Int)} {SL : List (Int × Int)} {LD : List (List Int)} {nQ : Nat} (h : WS w lo gw L SL LD nQ) (hf : Fr (fun _ => False) w w') : WS w' lo gw L SL LD nQ := by
 obtain ⟨g, m, base, v, gs, ms, gD, bD, vD, gQ, bQ, vQ, SQ, h, hq⟩ := h
 exact ⟨g, m, base, v, gs, ms, gD, bD, vD, gQ, bQ, vQ, SQ, h.keep hf, hq⟩
end Go.Proofs.YtmkdhhhoodeemaaGreat
