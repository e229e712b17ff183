/- Rows of bytes: appending; bytes.Clone. -/
import Derived.Test.YtcfanacfjcgnbaaGreatDoorSmall
import Derived.Test.YtcfanacfjcgnbaaGreatDoorOwn
import Derived.Lib.Hide
import Derived.Lib.SliceRun
import Derived.Deep.AppendLies
import Derived.Maps.AppendAt
import Derived.Deep.RegionLaw
namespace Go.Proofs.YtcfanacfjcgnbaaGreatDoor
open Go Go.RowKit
def bytesV (xs : List Int) : List Value := xs.map fun x => .int .u8 x
theorem bytesV_length (xs : List Int) : (bytesV xs).length = xs.length := by simp [bytesV]
/-- A row of bytes of the call's own. -/
def Own8 (w : World) (base : Nat) (v : Value) (xs : List Int) : Prop := w.ownsRow base 5 1 v xs.length (bytesV xs)
def ByteAt (w : World) (b o : Nat) (xs : List Int) : Prop := ∀ (k : Nat) (x : Int), xs[k]? = some x → w.cell? ⟨b, o + k, none⟩ = some (.int .u8 x)
/-- A row of bytes in a block of F. -/
def ByteRow (w : World) (F : Nat → Prop) (A : Option Addr) (xs : List Int) : Prop :=
  ∀ k x, xs[k]? = some x → ∃ b o, A = some ⟨b, o, none⟩ ∧ F b ∧ w.cell? ⟨b, o + k, none⟩ = some (.int .u8 x)
/-- A row of numbers in a block of F. -/
def NumRow (w : World) (F : Nat → Prop) (A : Option Addr) (xs : List Int) : Prop :=
  ∀ k x, xs[k]? = some x → ∃ b o, A = some ⟨b, o, none⟩ ∧ F b ∧ w.cell? ⟨b, o + k, none⟩ = some (.int .i64 x)
/-- A row of texts, it and they in blocks of F. -/
def TextRow (w : World) (F : Nat → Prop) (A : Option Addr) (l : List (List Int)) : Prop :=
  ∀ k s, l[k]? = some s → ∃ b o A' cap', A = some ⟨b, o, none⟩ ∧ F b ∧ w.cell? ⟨b, o + k, none⟩ = some (.slice A' s.length cap') ∧ ByteRow w F A' s
section
variable {S F F' : Nat → Prop} {w w' : World} {b o base : Nat} {A : Option Addr} {xs : List Int} {v : Value}
theorem ByteAt.fr (h : ByteAt w b o xs) (hf : Fr S w w') (hs : ¬ S b) : ByteAt w' b o xs := fun k x hx => hf.cell_some (h k x hx) hs
theorem ByteRow.fr (h : ByteRow w F A xs) (hf : Fr S w w') (hS : ∀ k, F k → ¬ S k) : ByteRow w' F A xs := by
  intro k x hx
  obtain ⟨b, o, e, hb, hc⟩ := h k x hx
  exact ⟨b, o, e, hb, hf.cell_some hc (hS b hb)⟩
theorem ByteRow.mono (h : ByteRow w F A xs) (hB : ∀ k, F k → F' k) : ByteRow w F' A xs := by
  intro k x hx
  obtain ⟨b, o, e, hb, hc⟩ := h k x hx
  exact ⟨b, o, e, hB b hb, hc⟩
theorem NumRow.fr (h : NumRow w F A xs) (hf : Fr S w w') (hS : ∀ k, F k → ¬ S k) : NumRow w' F A xs := by
  intro k x hx
  obtain ⟨b, o, e, hb, hc⟩ := h k x hx
  exact ⟨b, o, e, hb, hf.cell_some hc (hS b hb)⟩
theorem TextRow.fr {l : List (List Int)} (h : TextRow w F A l) (hf : Fr S w w') (hS : ∀ k, F k → ¬ S k) : TextRow w' F A l := by
  intro k x hx
  obtain ⟨b, o, A', cap', e, hb, hc, hr⟩ := h k x hx
  exact ⟨b, o, A', cap', e, hb, hf.cell_some hc (hS b hb), hr.fr hf hS⟩
theorem ByteRow.at (h : ByteRow w F A xs) (hn : 0 < xs.length) : ∃ b o, A = some ⟨b, o, none⟩ ∧ F b ∧ ByteAt w b o xs := by
  obtain ⟨b, o, e, hb, _⟩ := h 0 xs[0] (List.getElem?_eq_getElem hn)
  refine ⟨b, o, e, hb, fun k x hx => ?_⟩
  obtain ⟨b', o', e', _, hc⟩ := h k x hx
  rw [e] at e'
  cases e'
  exact hc
theorem Own8.nil (w : World) (base : Nat) : Own8 w base (.slice none 0 0) [] := World.ownsRow_nil _ _ _ _
theorem Own8.fr (h : Own8 w base v xs) (hf : Fr S w w') (hs : ∀ k, v.ownBlock = some k → ¬ S k) : Own8 w' base v xs := own_fr h hf hs
theorem Own8.alloc (h : Own8 w base v xs) (o : Obj) : Own8 (w.alloc o) base v xs := h.fr ((Fr.refl (fun _ => False) w).alloc o) (fun _ _ => id)
theorem Own8.drew (h : Own8 w base v xs) : Own8 w.drew base v xs := h.fr ((Fr.refl (fun _ => False) w).drew) (fun _ _ => id)
theorem Own8.setCell {g i : Nat} {t : TypeId} {cs : Array Value} (h : Own8 w base v xs) (hg : Blk w g t cs) (hne : 5 ≠ t) (u : Value) : Own8 (w.setCell ⟨g, i, none⟩ u) base v xs := own_setCell h hg hne i u
theorem Own8.len {n m c : Nat} (h : Own8 w base (.slice A n c) xs) (e : n = m) : Own8 w base (.slice A m c) xs := by subst e; exact h
theorem Own8.base_ {base' : Nat} (h : Own8 w base v xs) (hb : base' ≤ base) : Own8 w base' v xs := own_base h hb
theorem Own8.form (h : Own8 w base v xs) : ∃ A cap, v = .slice A xs.length cap ∧ xs.length ≤ cap ∧ ByteRow w (fun k => v.ownBlock = some k) A xs := by
  obtain ⟨A, cap, hv, hcap, hat⟩ := own_form h
  refine ⟨A, cap, hv, hcap, ?_⟩
  intro k x hx
  obtain ⟨b, hb, _, hc⟩ := hat k (.int .u8 x) (by simp [bytesV, hx])
  exact ⟨b, 0, hb, by rw [hv, hb]; rfl, by rw [Nat.zero_add]; exact hc⟩
theorem Own8.lt (h : Own8 w base v xs) : ∀ k, v.ownBlock = some k → k < w.heap.size := by
  intro k hk
  rcases h.2 with ⟨rfl, _⟩ | ⟨g, cap, cur, rfl, _, hg, _⟩
  · cases hk
  · cases hk
    exact lt_of_heap hg
theorem Own8.ne_blk {g : Nat} {t : TypeId} {cs : Array Value} (h : Own8 w base v xs) (hg : Blk w g t cs) (hne : 5 ≠ t) : v.ownBlock ≠ some g := own_ne_blk h hg hne
theorem bytes_cells (h : ByteAt w b o xs) : ∀ j u, (bytesV xs)[j]? = some u → w.cell? ((⟨b, o, none⟩ : Addr).add j) = some u := by
  intro j u hu
  rw [bytesV, List.getElem?_map] at hu
  obtain ⟨x, hx, rfl⟩ := Option.map_eq_some_iff.1 hu
  rw [add_at]
  exact h j x hx
theorem bytes_one (xs : List Int) : ∀ u ∈ bytesV xs, u.oneCell' = true := by
  intro u hu
  obtain ⟨x, _, rfl⟩ := List.mem_map.1 hu
  rfl
theorem ByteAt.new (w : World) (xs : List Int) : ByteAt (w.alloc (.cells (bytesV xs).toArray 5)) w.heap.size 0 xs := by
  intro k x hx
  rw [Nat.zero_add, (Blk.new w 5 (bytesV xs).toArray).cell k]
  simp [bytesV, hx]
/-- A row made with its elements, out of 'buildSlice'. -/
theorem Own8.built (w : World) {base : Nat} (hb : base ≤ w.heap.size) (xs : List Int) (hx : xs.length ≤ 1000) (n : Nat) (hn : n = xs.length) :
    Own8 (w.alloc (.cells (bytesV xs).toArray 5)) base (.slice (some ⟨w.heap.size, 0, none⟩) n n) xs := by
  subst hn
  refine ⟨by simp [bytesV], .inr ⟨w.heap.size, xs.length, (bytesV xs).toArray, rfl, hb, heap_alloc_new w _, Nat.le_refl _, by simp only [maxLen]; omega, by simp [bytesV], ?_⟩⟩
  simp [bytesV, List.take_of_length_le]
end
/-- 'append(v, xs...)' in a plain list, v the call's own. -/
theorem wpList_append_bytes {w : World} {ops : Array Oper} {rest : List Oper} {o : Oper} {a : Act} {Q : Exit → Act → World → Prop} (hgd : o.guard = none) (s x : Operand)
    (ho : o.op = .call { callee := .builtin .append, args := #[s, x], argTypes := #[60, 60] })
    (base : Nat) (v : Value) (ys : List Int) (hs : a.eval s = v) (hown : Own8 w base v ys)
    (b f m c : Nat) (xs : List Int) (hx : a.eval x = .slice (some ⟨b, f, none⟩) m c) (hl : xs.length = m) (hxs : ByteAt w b f xs)
    (hm : 0 < m) (h63 : ys.length + m ≤ 1099511627776) (hbase : base ≤ w.heap.size)
    (h : ∀ g cap w', Own8 w' base (.slice (some ⟨g, 0, none⟩) (ys ++ xs).length cap) (ys ++ xs) → Fr (fun k => v.ownBlock = some k) w w' → (v.ownBlock = some g ∨ g = w.heap.size) → wpList Tryz.prog ops Q rest (a.put o.dst (.slice (some ⟨g, 0, none⟩) (ys ++ xs).length cap)) w') : wpList Tryz.prog ops Q (o :: rest) a w := by
  have hinf : (Tryz.prog.info? 5).map (fun i => (i.zero, i.size, i.bytes)) = some (some (.int .u8 0), 1, 1) := by kernel_rfl
  obtain ⟨i0, hi, hz0, hz1, hz2⟩ := info_parts hinf
  refine wpList_append_lies (w := w) hgd s x 60 ho base 5 i0 (.int .u8 0) 1 1 Tryz.underlying60 hi hz0 hz1 hz2 rfl (by decide) v ys.length (bytesV ys) hs hown ⟨b, f, none⟩ m c (bytesV xs) hx (by simp [bytesV, hl]) (bytes_cells hxs) (bytes_one xs) hm (by simp only [maxLen]; omega) (by omega) hbase w.heap.size rfl ?_
  intro g cap w' h1 h2 h3 _
  have e : ys.length + m = (ys ++ xs).length := by rw [List.length_append, hl]
  rw [e] at h1 ⊢
  exact h g cap w' (by unfold Own8; rw [bytesV, List.map_append]; exact h1) ((Fr.refl _ w).grown h2 (fun _ _ e1 => e1)) h3
theorem run_append_nil (w : World) (base : Nat) (t ty e : TypeId) (i : TypeInfo) (size : Nat) (ht : Tryz.prog.underlying t = some (.slice e)) (hi : Tryz.prog.info? e = some i)
    (v : Value) (n : Nat) (xs : List Value) (hown : w.ownsRow base e size v n xs) (c : Nat) : (Builtin.append_ #[t, t] ty #[v, .slice none 0 c]).run Tryz.prog w = .ok v w := by
  rcases hown.2 with ⟨rfl, rfl⟩ | ⟨g, cap, cur, rfl, _, _, hnc, _⟩
  · simp [Builtin.append_, run_underlying ht, sizeOf, typeInfo, hi, Builtin.lenOf, Builtin.firstCells]
  · simp [Builtin.append_, run_underlying ht, sizeOf, typeInfo, hi, Builtin.lenOf, Builtin.firstCells, hnc, storeCells]
/-- 'append(v, xs...)', v the call's own, xs any bytes, none perhaps. -/
theorem run_append_text (w : World) (ty : TypeId) (base : Nat) (v : Value) (ys : List Int) (hown : Own8 w base v ys) (B : Nat → Prop) (A : Option Addr) (c : Nat) (xs : List Int) (hr : ByteRow w B A xs)
    (h63 : ys.length + xs.length ≤ 1099511627776) (hbase : base ≤ w.heap.size) :
    ∃ v' w', (Builtin.append_ #[60, 60] ty #[v, .slice A xs.length c]).run Tryz.prog w = .ok v' w' ∧ Own8 w' base v' (ys ++ xs) ∧ Fr (fun k => v.ownBlock = some k) w w' ∧ (v'.ownBlock = v.ownBlock ∨ v'.ownBlock = some w.heap.size) := by
  have hinf : (Tryz.prog.info? 5).map (fun i => (i.zero, i.size, i.bytes)) = some (some (.int .u8 0), 1, 1) := by kernel_rfl
  obtain ⟨i0, hi, hz0, hz1, hz2⟩ := info_parts hinf
  rcases A with _ | ad
  · have hx : xs = [] := by
      cases xs with
      | nil => rfl
      | cons x r => obtain ⟨b, o, e, _⟩ := hr 0 x rfl; cases e
    subst hx
    exact ⟨v, w, run_append_nil w base 60 ty 5 i0 1 Tryz.underlying60 hi v ys.length (bytesV ys) hown c, by simpa using hown, Fr.refl _ _, .inl rfl⟩
  · have hcells : ∀ j u, (bytesV xs)[j]? = some u → w.cell? (ad.add j) = some u := by
      intro j u hu
      rw [bytesV, List.getElem?_map] at hu
      obtain ⟨x, hx, rfl⟩ := Option.map_eq_some_iff.1 hu
      obtain ⟨b, o, e, _, hc⟩ := hr j x hx
      cases e
      rw [add_at]
      exact hc
    obtain ⟨v', w', hrun, h2, h3, _, h5⟩ := run_append_own_at (P := Tryz.prog) (w := w) base 60 ty 5 i0 (.int .u8 0) 1 1 Tryz.underlying60 hi hz0 hz1 hz2 rfl (by decide) v ys.length (bytesV ys) hown ad xs.length c (bytesV xs) (by simp [bytesV]) hcells (bytes_one xs) (by simp only [maxLen]; omega) (by omega) hbase
    exact ⟨v', w', hrun, by unfold Own8; rw [bytesV, List.map_append, List.length_append]; exact h2, (Fr.refl _ w).grown h3 (fun _ _ e1 => e1), h5⟩
theorem wp_append_text {w : World} {o : Oper} {a : Act} {K : Act → World → Prop} {Q : Exit → Act → World → Prop} (s x : Operand)
    (ho : o.op = .call { callee := .builtin .append, args := #[s, x], argTypes := #[60, 60] })
    (base : Nat) (v : Value) (ys : List Int) (hs : a.eval s = v) (hown : Own8 w base v ys)
    (B : Nat → Prop) (A : Option Addr) (m c : Nat) (xs : List Int) (hx : a.eval x = .slice A m c) (hl : m = xs.length) (hr : ByteRow w B A xs) (h63 : ys.length + xs.length ≤ 1099511627776) (hbase : base ≤ w.heap.size)
    (h : ∀ v' w', Own8 w' base v' (ys ++ xs) → Fr (fun k => v.ownBlock = some k) w w' → (v'.ownBlock = v.ownBlock ∨ v'.ownBlock = some w.heap.size) → K (a.put o.dst v') w') : o.wp Tryz.prog a w K Q := by
  subst hl
  obtain ⟨v', w', hrun, h2, h3, h4⟩ := run_append_text w o.type base v ys hown B A c xs hr h63 hbase
  unfold Oper.wp execOp
  simp only [ho, resolve, invoke, builtin, Sem.run_bind, Sem.run_pure, Result.andThen_ok, List.map_toArray, List.map_cons, List.map_nil, hs, hx, hrun]
  exact h v' w' h2 h3 h4
theorem wpList_append_text {w : World} {ops : Array Oper} {rest : List Oper} {o : Oper} {a : Act} {Q : Exit → Act → World → Prop} (hgd : o.guard = none) (s x : Operand)
    (ho : o.op = .call { callee := .builtin .append, args := #[s, x], argTypes := #[60, 60] })
    (base : Nat) (v : Value) (ys : List Int) (hs : a.eval s = v) (hown : Own8 w base v ys)
    (B : Nat → Prop) (A : Option Addr) (m c : Nat) (xs : List Int) (hx : a.eval x = .slice A m c) (hl : m = xs.length) (hr : ByteRow w B A xs) (h63 : ys.length + xs.length ≤ 1099511627776) (hbase : base ≤ w.heap.size)
    (h : ∀ v' w', Own8 w' base v' (ys ++ xs) → Fr (fun k => v.ownBlock = some k) w w' → (v'.ownBlock = v.ownBlock ∨ v'.ownBlock = some w.heap.size) → wpList Tryz.prog ops Q rest (a.put o.dst v') w') : wpList Tryz.prog ops Q (o :: rest) a w :=
  wpList_plain hgd fun _ hK => wp_append_text s x ho base v ys hs hown B A m c xs hx hl hr h63 hbase fun v' w' h2 h3 h4 => hK _ _ (h v' w' h2 h3 h4)
theorem step_append_text {w : World} {ops : Array Oper} {o : Oper} {a : Act} {K : Act → World → Prop} {Q : Exit → Act → World → Prop} {E : Prop} (hgd : o.guard = none) (s x : Operand)
    (ho : o.op = .call { callee := .builtin .append, args := #[s, x], argTypes := #[60, 60] })
    (base : Nat) (v : Value) (ys : List Int) (hs : a.eval s = v) (hown : Own8 w base v ys)
    (B : Nat → Prop) (A : Option Addr) (m c : Nat) (xs : List Int) (hx : a.eval x = .slice A m c) (hl : m = xs.length) (hr : ByteRow w B A xs) (h63 : ys.length + xs.length ≤ 1099511627776) (hbase : base ≤ w.heap.size)
    (h : ∀ v' w', Own8 w' base v' (ys ++ xs) → Fr (fun k => v.ownBlock = some k) w w' → (v'.ownBlock = v.ownBlock ∨ v'.ownBlock = some w.heap.size) → K (a.put o.dst v') w') :
    if Region.wanted o (yielded ops a.tmps) = true then Oper.wp Tryz.prog o a w K Q else E := by
  have hw : Region.wanted o (yielded ops a.tmps) = true := by simp [Region.wanted, hgd]
  rw [if_pos hw]
  exact wp_append_text s x ho base v ys hs hown B A m c xs hx hl hr h63 hbase h
/-- What is a fresh row of these bytes. -/
def Fresh (w : World) (xs : List Int) (e : Ending) (w' : World) : Prop := ∃ v, e = .returned v ∧ Own8 w' w.heap.size v xs ∧ Fr (fun _ => False) w w'
set_option maxRecDepth 100000 in
theorem bytes_Clone {w : World} {B : Nat → Prop} {A : Option Addr} {xs : List Int} {n cap : Nat} (h : ByteRow w B A xs) (hn : n = xs.length) (hl : xs.length ≤ 1099511627776) :
    Calls Tryz.prog 75 #[.slice A n cap] w (Fresh w xs) := by
  subst hn
  have hq := fun w' A n => @Lib.run_eql_slice_nil Tryz.prog w' 60 5 A n cap 0 0 Tryz.underlying60
  cases xs with
  | nil =>
    cases A with
    | none =>
      go_enter Tryz.func75, Tryz.ntmps75
      go_wp2
      go_ret
      exact ⟨.slice none 0 0, rfl, Own8.nil _ _, Fr.refl _ _⟩
    | some a =>
      go_enter Tryz.func75, Tryz.ntmps75
      go_wp2
      go_ret
      exact ⟨.slice (some ⟨w.heap.size, 0, none⟩) 0 0, rfl, Own8.built w (Nat.le_refl _) [] (by simp) 0 rfl, (Fr.refl (fun _ => False) w).alloc _⟩
  | cons x r =>
    obtain ⟨b, o, rfl, hb, hat⟩ := h.at (by simp)
    go_enter Tryz.func75, Tryz.ntmps75
    go_wp2_with (at_builtin; refine wpList_append_bytes rfl (.tmp 5) (.tmp 6) rfl w.heap.size _ [] rfl (Own8.built w (Nat.le_refl _) [] (by simp) 0 rfl) b o (x :: r).length cap (x :: r) rfl rfl (hat.fr ((Fr.refl (fun _ => False) w).alloc _) id) (by simp) (by simpa using hl) (by simp) ?_; intro g2 c2 w2 hown2 hf2 hg2)
    go_ret
    refine ⟨.slice (some ⟨g2, 0, none⟩) ([] ++ (x :: r)).length c2, rfl, hown2, ((Fr.refl (fun _ => False) w).alloc (Obj.cells #[] 5)).trans hf2 ?_⟩
    intro k hk e1
    cases e1
    simp at hk
end Go.Proofs.YtcfanacfjcgnbaaGreatDoor
