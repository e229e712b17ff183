/- bytes.Clone, wire.New: at any bytes that may come in. -/
import Derived.Test.YtkbcobbnjiekfaaDoorWireB
namespace Go.Proofs.YtkbcobbnjiekfaaDoor
open Go Go.RowKit
theorem wpList_append_bytesB {w : World} {ops : Array Oper} {rest : List Oper} {o : Oper} {a : Act} {Q : Exit → Act → World → Prop} (hgd : o.guard = none) (s x : Operand)
    (ho : o.op = .call { callee := .builtin .append, args := #[s, x], argTypes := #[24, 24] })
    (base : Nat) (v : Value) (ys : List Int) (hs : a.eval s = v) (hown : Own8 w base v ys)
    (b f m c : Nat) (xs : List Int) (hx : a.eval x = .slice (some ⟨b, f, none⟩) m c) (hl : xs.length = m) (hxs : ByteAt w b f xs)
    (hm : 0 < m) (h63 : ys.length + m ≤ 140737488355328) (hbase : base ≤ w.heap.size)
    (h : ∀ g cap w', Own8 w' base (.slice (some ⟨g, 0, none⟩) (ys ++ xs).length cap) (ys ++ xs) → Fr (fun k => v.ownBlock = some k) w w' → (v.ownBlock = some g ∨ g = w.heap.size) → wpList Tryd.prog ops Q rest (a.put o.dst (.slice (some ⟨g, 0, none⟩) (ys ++ xs).length cap)) w') : wpList Tryd.prog ops Q (o :: rest) a w := by
  have hinf : (Tryd.prog.info? 5).map (fun i => (i.zero, i.size, i.bytes)) = some (some (.int .u8 0), 1, 1) := by kernel_rfl
  obtain ⟨i0, hi, hz0, hz1, hz2⟩ := info_parts hinf
  refine wpList_append_lies (w := w) hgd s x 24 ho base 5 i0 (.int .u8 0) 1 1 Tryd.underlying24 hi hz0 hz1 hz2 rfl (by decide) v ys.length (bytesV ys) hs hown ⟨b, f, none⟩ m c (bytesV xs) hx (by simp [bytesV, hl]) (bytes_cells hxs) (bytes_one xs) hm (by simp only [maxLen]; omega) (by omega) hbase w.heap.size rfl ?_
  intro g cap w' h1 h2 h3 _
  have e : ys.length + m = (ys ++ xs).length := by rw [List.length_append, hl]
  rw [e] at h1 ⊢
  exact h g cap w' (by unfold Own8; rw [bytesV, List.map_append]; exact h1) ((Fr.refl _ w).grown h2 (fun _ _ e1 => e1)) h3
set_option maxRecDepth 100000 in
theorem bytes_CloneB {w : World} {B : Nat → Prop} {A : Option Addr} {xs : List Int} {n cap : Nat} (h : ByteRow w B A xs) (hn : n = xs.length) (hl : xs.length ≤ 140737488355328) :
    Calls Tryd.prog 38 #[.slice A n cap] w (Fresh w xs) := by
  subst hn
  have hq := fun w' A n => @Lib.run_eql_slice_nil Tryd.prog w' 24 5 A n cap 0 0 Tryd.underlying24
  cases xs with
  | nil =>
    cases A with
    | none =>
      go_enter Tryd.func38, Tryd.ntmps38
      go_wp2
      go_ret
      exact ⟨.slice none 0 0, rfl, Own8.nil _ _, Fr.refl _ _⟩
    | some a =>
      go_enter Tryd.func38, Tryd.ntmps38
      go_wp2
      go_ret
      exact ⟨.slice (some ⟨w.heap.size, 0, none⟩) 0 0, rfl, Own8.built w (Nat.le_refl _) [] (by simp) 0 rfl, (Fr.refl (fun _ => False) w).alloc _⟩
  | cons x r =>
    obtain ⟨b, o, rfl, hb, hat⟩ := h.at (by simp)
    go_enter Tryd.func38, Tryd.ntmps38
    go_wp2_with (at_builtin; refine wpList_append_bytesB rfl (.tmp 5) (.tmp 6) rfl w.heap.size _ [] rfl (Own8.built w (Nat.le_refl _) [] (by simp) 0 rfl) b o (x :: r).length cap (x :: r) rfl rfl (hat.fr ((Fr.refl (fun _ => False) w).alloc _) id) (by simp) (by simpa using hl) (by simp) ?_; intro g2 c2 w2 hown2 hf2 hg2)
    go_ret
    refine ⟨.slice (some ⟨g2, 0, none⟩) ([] ++ (x :: r)).length c2, rfl, hown2, ((Fr.refl (fun _ => False) w).alloc (Obj.cells #[] 5)).trans hf2 ?_⟩
    intro k hk e1
    cases e1
    simp at hk
set_option maxRecDepth 100000 in
theorem wire_NewB {w : World} {F : Nat → Prop} {A : Option Addr} {bs : List Int} {cap : Nat} (hr : ByteRow w F A bs) (hl : bs.length ≤ 140737488355328) :
    Calls Tryd.prog 12 #[.slice A bs.length cap] w (NewAt w bs) := by
  go_enter Tryd.func12, Tryd.ntmps12
  go_wp2_with (go_at_call 38; refine (bytes_CloneB hr rfl hl).mono ?_; rintro e w1 ⟨v1, rfl, h1, hf1⟩; obtain ⟨A1, cap1, rfl, hc1, hr1⟩ := h1.form)
  go_ret
  refine ⟨w1.heap.size, A1, rfl, ⟨⟨A1, cap1, hc1, fun _ => ?_, ?_⟩, ?_, Nat.zero_le _, ?_, ?_⟩, hf1.size, ?_, hf1.alloc _⟩
  · cases A1 <;> rfl
  · exact Blk.new w1 70 #[.slice A1 bs.length cap1, .int .i64 0, .nilIface]
  · intro k x hx
    obtain ⟨b, o, e, _, hc⟩ := hr1 k x hx
    exact ⟨b, o, e, ⟨o, e⟩, ((Fr.refl (fun _ => False) w1).alloc _).cell_some hc id⟩
  · rintro k o rfl
    have := h1.lt k rfl
    omega
  · rintro k o rfl
    have := h1.lt k rfl
    simp
    omega
  · rintro k o rfl
    rcases h1.2 with ⟨e, _⟩ | ⟨g, cap, cur, e, hg, _⟩
    · cases e
    · cases e
      exact hg
end Go.Proofs.YtkbcobbnjiekfaaDoor
