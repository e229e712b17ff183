/- wire: number, count, the Writer's functions for numbers. -/
import Derived.Test.YtcfanacfjcgnbaaGreatDoorBytes
import Derived.Deep.RegionHeld3
namespace Go.Proofs.YtcfanacfjcgnbaaGreatDoor
open Go Go.RowKit
def num8 (n : Int) : List Int := (List.range 8).map fun (j : Nat) => n / 2 ^ (56 - 8 * j) % 256
theorem num8_length (n : Int) : (num8 n).length = 8 := by simp [num8]
theorem num8_take {n : Int} {j : Nat} (h : j < 8) : (num8 n).take (j + 1) = (num8 n).take j ++ [n / 2 ^ (56 - 8 * j) % 256] := by
  rw [List.take_succ_eq_append_getElem (by rw [num8_length]; exact h)]
  simp [num8]
def Grown (w : World) (base : Nat) (v : Value) (xs : List Int) (e : Ending) (w' : World) : Prop :=
  ∃ v', e = .returned v' ∧ Own8 w' base v' xs ∧ Fr (fun k => v.ownBlock = some k) w w' ∧ ∀ k, v'.ownBlock = some k → v.ownBlock = some k ∨ w.heap.size ≤ k
set_option maxRecDepth 100000 in
theorem wire_number {w : World} {base : Nat} {v : Value} {bs : List Int} (h : Own8 w base v bs) (hbase : base ≤ w.heap.size) (hb : bs.length + 8 ≤ 1099511627776) (n : Int) :
    Calls Tryz.prog 71 #[v, .int .i64 n] w (Grown w base v (bs ++ num8 n)) := by
  go_enter Tryz.func71, Tryz.ntmps71
  go_wp2_with fail
  go_loopw [0, 5] (fun b i wr => ∃ j : Nat, j ≤ 8 ∧ i = .int .i64 (56 - 8 * (j : Int)) ∧ Own8 wr base b (bs ++ (num8 n).take j) ∧ Fr (fun k => v.ownBlock = some k) w wr ∧ ∀ k, b.ownBlock = some k → v.ownBlock = some k ∨ w.heap.size ≤ k) (fun b i _ => (intOf i + 8).toNat)
  case atStart => exact ⟨0, by omega, rfl, by simpa using h, Fr.refl _ _, fun k hk => .inl hk⟩
  case round =>
    obtain ⟨j, hj, rfl, hown, hf, hk⟩ := hrel
    by_cases hlt : j < 8
    · have h0 : (0 : Int) ≤ 56 - 8 * (j : Int) := by omega
      go_wp2_with (at_builtin; refine wpList_append_bytes rfl (.tmp 10) (.tmp 15) rfl base u0 (bs ++ (num8 n).take j) rfl (hown.alloc _) wr.heap.size 0 1 1 [n / 2 ^ (56 - 8 * j) % 256] rfl rfl (ByteAt.new wr [n / 2 ^ (56 - 8 * j) % 256]) (by decide) (by simp [num8_length]; omega) (by have := hf.size; simp; omega) ?_; intro g2 c2 w2 hown2 hf2 hg2)
      go_roundw
      case rel =>
        refine ⟨j + 1, by omega, by go_num, by rw [num8_take hlt, ← List.append_assoc]; exact hown2.len (by simp), hf.trans (((Fr.refl (fun k => u0.ownBlock = some k) wr).alloc _).trans hf2 (fun k _ h => h)) (fun k hlk h => (hk k h).resolve_right (by omega)), ?_⟩
        intro k e1
        cases e1
        rcases hg2 with h | h
        · exact hk _ h
        · exact .inr (by rw [h]; have := hf.size; simp; omega)
      case measure => simp [intOf]; omega
    · obtain rfl : j = 8 := by omega
      go_wp2
      go_ret
      exact ⟨_, rfl, by simpa [num8_length, List.take_of_length_le] using hown, hf, hk⟩
def count4 (n : Int) : List Int := [n / 16777216 % 256, n / 65536 % 256, n / 256 % 256, n % 256]
set_option maxRecDepth 100000 in
theorem wire_count {w : World} {base : Nat} {v : Value} {bs : List Int} (h : Own8 w base v bs) (hbase : base ≤ w.heap.size) (hb : bs.length + 4 ≤ 1099511627776) (n : Int) :
    Calls Tryz.prog 83 #[v, .int .i64 n] w (Grown w base v (bs ++ count4 n)) := by
  go_enter Tryz.func83, Tryz.ntmps83
  go_wp2_with (at_builtin; refine wpList_append_bytes rfl (.tmp 5) (.tmp 17) rfl base v bs rfl (h.alloc _) w.heap.size 0 4 4 (count4 n) rfl rfl (ByteAt.new w (count4 n)) (by decide) (by omega) (by simp; omega) ?_; intro g2 c2 w2 hown2 hf2 hg2)
  go_ret
  refine ⟨.slice (some ⟨g2, 0, none⟩) (bs.length + (count4 n).length) c2, rfl, hown2.len (by simp), ((Fr.refl (fun k => v.ownBlock = some k) w).alloc _).trans hf2 (fun k _ h => h), ?_⟩
  intro k e1
  cases e1
  rcases hg2 with h | h
  · exact .inl h
  · exact .inr (by rw [h]; simp)
theorem num1 {w : World} {base : Nat} {v : Value} {bs : List Int} (h : Own8 w base v bs) (hbase : base ≤ w.heap.size) (hb : bs.length + 8 ≤ 1099511627776) (n : Int) (bx : Nat) (hx : w.cell? ⟨bx, 0, none⟩ = some (.int .i64 n)) :
    Calls Tryz.prog 70 #[v, .pointer (some ⟨bx, 0, none⟩)] w (Grown w base v (bs ++ num8 n)) := by
  go_enter Tryz.func70, Tryz.ntmps70
  go_wp2_with fail
  refine (wire_number h hbase hb n).mono ?_
  rintro e w' ⟨v', rfl, h1, h2, h3⟩
  go_wp2
  go_ret
  exact ⟨_, rfl, h1, h2, h3⟩
def errW (bad : Option Nat) : Value := errO (bad.map fun a => ([((⟨#[119, 114, 105, 116, 101]⟩ : ByteArray), (a : Int))], 2))
structure WriterAt (w : World) (g base : Nat) (v : Value) (bs : List Int) (bad : Option Nat) : Prop where
  blk : Blk w g 139 #[v, errW bad]
  own : Own8 w base v bs
theorem WriterAt.fr {S : Nat → Prop} {w w' : World} {g base : Nat} {v : Value} {bs : List Int} {bad : Option Nat} (h : WriterAt w g base v bs bad) (hf : Fr S w w') (hg : ¬ S g) (hv : ∀ k, v.ownBlock = some k → ¬ S k) : WriterAt w' g base v bs bad :=
  ⟨h.blk.fr hf hg, h.own.fr hf hv⟩
def Wrote (w : World) (g base : Nat) (v : Value) (bs : List Int) (bad : Option Nat) (e : Ending) (w' : World) : Prop :=
  ∃ v', e = .returned (.tuple #[]) ∧ WriterAt w' g base v' bs bad ∧ Fr (fun k => k = g ∨ v.ownBlock = some k) w w' ∧ ∀ k, v'.ownBlock = some k → v.ownBlock = some k ∨ w.heap.size ≤ k
set_option maxRecDepth 100000 in
theorem add_bad {w : World} {g base : Nat} {v : Value} {bs : List Int} {a : Nat} (h : WriterAt w g base v bs (some a)) (fine : Bool) (f : Value) :
    Calls Tryz.prog 69 #[.pointer (some ⟨g, 0, none⟩), .bool fine, f] w (Wrote w g base v bs (some a)) := by
  have c0 := h.blk.cell 1
  obtain ⟨t, u, hu⟩ := errO_some ([((⟨#[119, 114, 105, 116, 101]⟩ : ByteArray), (a : Int))], 2)
  have c1 : w.cell? ⟨g, 1, none⟩ = some (.iface t u) := by rw [← hu]; exact c0
  clear c0
  go_enter Tryz.func69, Tryz.ntmps69
  go_wp2
  refine bodyPost_ret (v := .tuple #[]) (by simp [results, Tryz.results69, go_sem]) rfl ?_
  exact ⟨v, rfl, h, Fr.refl _ _, fun k hk => .inl hk⟩
set_option maxRecDepth 100000 in
theorem add_num {w : World} {g base : Nat} {v : Value} {bs ys : List Int} (h : WriterAt w g base v bs none) (b1 : Nat)
    (hof : Calls Tryz.prog 70 #[v, .pointer (some ⟨b1, 0, none⟩)] w (Grown w base v ys)) :
    Calls Tryz.prog 69 #[.pointer (some ⟨g, 0, none⟩), .bool true, .func (.func 70) #[] #[.pointer (some ⟨b1, 0, none⟩)]] w (Wrote w g base v ys none) := by
  have c0 := h.blk.cell 0
  have c1 : w.cell? ⟨g, 1, none⟩ = some .nilIface := h.blk.cell 1
  go_enter Tryz.func69, Tryz.ntmps69
  go_wp2_with (go_at_call 70; refine hof.mono ?_; rintro e w1 ⟨v1, rfl, h1, hf1, hk1⟩; obtain ⟨A1, p1, rfl, _, _⟩ := h1.form; have hb1 := h.blk.fr hf1 (h.own.ne_blk h.blk (by decide)); have d0 := hb1.cell 0; have z0 := hb1.frozen 0)
  refine bodyPost_ret (v := .tuple #[]) (by simp [results, Tryz.results69, go_sem]) rfl ?_
  exact ⟨_, rfl, ⟨hb1.set_ 0 (.slice A1 ys.length p1), h1.setCell hb1 (by decide) _⟩, (hf1.mono (fun k _ hk => .inr hk)).setCell (p := ⟨g, 0, none⟩) (fun _ => .inl rfl) _, hk1⟩
set_option maxRecDepth 100000 in
theorem add_text {w : World} {g base : Nat} {v : Value} {bs ys : List Int} (h : WriterAt w g base v bs none) (b1 : Nat)
    (hof : Calls Tryz.prog 73 #[v, .pointer (some ⟨b1, 0, none⟩)] w (Grown w base v ys)) :
    Calls Tryz.prog 69 #[.pointer (some ⟨g, 0, none⟩), .bool true, .func (.func 73) #[] #[.pointer (some ⟨b1, 0, none⟩)]] w (Wrote w g base v ys none) := by
  have c0 := h.blk.cell 0
  have c1 : w.cell? ⟨g, 1, none⟩ = some .nilIface := h.blk.cell 1
  go_enter Tryz.func69, Tryz.ntmps69
  go_wp2_with (go_at_call 73; refine hof.mono ?_; rintro e w1 ⟨v1, rfl, h1, hf1, hk1⟩; obtain ⟨A1, p1, rfl, _, _⟩ := h1.form; have hb1 := h.blk.fr hf1 (h.own.ne_blk h.blk (by decide)); have d0 := hb1.cell 0; have z0 := hb1.frozen 0)
  refine bodyPost_ret (v := .tuple #[]) (by simp [results, Tryz.results69, go_sem]) rfl ?_
  exact ⟨_, rfl, ⟨hb1.set_ 0 (.slice A1 ys.length p1), h1.setCell hb1 (by decide) _⟩, (hf1.mono (fun k _ hk => .inr hk)).setCell (p := ⟨g, 0, none⟩) (fun _ => .inl rfl) _, hk1⟩
theorem add_many {w : World} {g base : Nat} {v : Value} {bs : List Int} (h : WriterAt w g base v bs none) (f : Value) :
    Calls Tryz.prog 69 #[.pointer (some ⟨g, 0, none⟩), .bool false, f] w (Wrote w g base v bs (some bs.length)) := by
  obtain ⟨A, cap, rfl, _, _⟩ := h.own.form
  obtain ⟨t, u, hu⟩ := errV_iface [((⟨#[119, 114, 105, 116, 101]⟩ : ByteArray), (bs.length : Int))] 2
  have hW : errW (some bs.length) = .iface t u := hu
  have c0 : w.cell? ⟨g, 0, none⟩ = some (.slice A bs.length cap) := h.blk.cell 0
  have c1 : w.cell? ⟨g, 1, none⟩ = some .nilIface := h.blk.cell 1
  have z1 := h.blk.frozen 1
  go_enter Tryz.func69, Tryz.ntmps69
  go_wp2_with fail
  have e0 := (h.blk.drew.set_ 1 (.iface t u)).cell 0
  go_region_held3 (fun w' => w'.cell? ⟨g, 0, none⟩ = some (.slice A bs.length cap)) (first | exact c0 | exact e0) (first | (go_at_call 44; refine (fault_Of 2 rfl _).mono ?_; rintro e w' ⟨rfl, rfl⟩) | (go_at_call 42; refine (fault_Wrap [] 2 _ _ _).mono ?_; rintro e w' ⟨rfl, rfl⟩; rw [hu]))
  go_wp2
  refine bodyPost_ret (v := .tuple #[]) (by simp [results, Tryz.results69, go_sem]) rfl ?_
  refine ⟨_, rfl, ⟨?_, (h.own.drew).setCell h.blk.drew (by decide) _⟩, ((Fr.refl (fun k => k = g ∨ (Value.slice A bs.length cap).ownBlock = some k) w).drew).setCell (p := ⟨g, 1, none⟩) (fun _ => .inl rfl) _, fun k hk => .inl hk⟩
  rw [hW]
  exact h.blk.drew.set_ 1 (.iface t u)
/-- What a writer does with something: more bytes, or too much. -/
def wput (bs : List Int) (bad : Option Nat) (o : Option (List Int)) : List Int × Option Nat :=
  match bad, o with
  | some a, _ => (bs, some a)
  | none, some x => (bs ++ x, none)
  | none, none => (bs, some bs.length)
def Put1 (w : World) (g base : Nat) (v : Value) (bs : List Int) (bad : Option Nat) (o : Option (List Int)) (e : Ending) (w' : World) : Prop :=
  Wrote w g base v (wput bs bad o).1 (wput bs bad o).2 e w'
theorem Wrote.before {w w1 w' : World} {g base : Nat} {v : Value} {bs : List Int} {bad : Option Nat} {e : Ending} (h : Wrote w1 g base v bs bad e w') (hf : Fr (fun _ => False) w w1) : Wrote w g base v bs bad e w' := by
  obtain ⟨v', he, h1, h2, h3⟩ := h
  exact ⟨v', he, h1, (hf.mono (fun _ _ hx => hx.elim)).trans h2 (fun _ _ hx => hx), fun k hk => (h3 k hk).imp_right (Nat.le_trans hf.size)⟩
set_option maxRecDepth 100000 in
theorem writer_Num {w : World} {g base : Nat} {v : Value} {bs : List Int} {bad : Option Nat} (h : WriterAt w g base v bs bad) (hbase : base ≤ w.heap.size) (hb : bs.length + 8 ≤ 1099511627776) (n : Int) :
    Calls Tryz.prog 59 #[.pointer (some ⟨g, 0, none⟩), .int .i64 n] w (Put1 w g base v bs bad (some (num8 n))) := by
  have hf0 : Fr (fun _ => False) w (w.alloc (Obj.cells #[.int .i64 n] 2)) := (Fr.refl _ _).alloc _
  have h1 := h.fr hf0 id (fun _ _ => id)
  have hx := (Blk.new w 2 #[.int .i64 n]).cell 0
  unfold Put1
  cases bad with
  | some a =>
    simp only [wput]
    go_enter Tryz.func59, Tryz.ntmps59
    go_wp2_with (go_at_call 69; refine (add_bad h1 true _).mono ?_; rintro e w' ⟨v1, rfl, h2, hf2, hk2⟩)
    refine bodyPost_ret (v := .tuple #[]) (by simp [results, Tryz.results59, go_sem]) rfl ?_
    exact Wrote.before ⟨v1, rfl, h2, hf2, hk2⟩ hf0
  | none =>
    simp only [wput]
    go_enter Tryz.func59, Tryz.ntmps59
    go_wp2_with (go_at_call 69; refine (add_num h1 w.heap.size (num1 h1.own (by simp; omega) hb n w.heap.size hx)).mono ?_; rintro e w' ⟨v1, rfl, h2, hf2, hk2⟩)
    refine bodyPost_ret (v := .tuple #[]) (by simp [results, Tryz.results59, go_sem]) rfl ?_
    exact Wrote.before ⟨v1, rfl, h2, hf2, hk2⟩ hf0
end Go.Proofs.YtcfanacfjcgnbaaGreatDoor
