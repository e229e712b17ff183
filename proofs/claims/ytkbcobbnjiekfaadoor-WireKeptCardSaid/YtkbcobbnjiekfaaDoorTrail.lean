/- fault.Trail. -/
import Derived.Test.YtkbcobbnjiekfaaDoorAsWr
namespace Go.Proofs.YtkbcobbnjiekfaaDoor
open Go Go.RowKit
def stepCells (l : List (ByteArray × Int)) : List Value := l.flatMap fun x => [.string x.1, .int .i64 x.2]
theorem stepCells_snoc (l : List (ByteArray × Int)) (x : ByteArray × Int) : stepCells (l ++ [x]) = stepCells l ++ [.string x.1, .int .i64 x.2] := by simp [stepCells]
def Trailed (w : World) (l : List (ByteArray × Int)) (e : Ending) (w' : World) : Prop :=
  ∃ v, e = .returned v ∧ w'.ownsRow w.heap.size 59 2 v l.length (stepCells l) ∧ Fr (fun _ => False) w w'
set_option maxRecDepth 100000 in
theorem fault_Trail {w : World} (hG : Laid w) (l : List (ByteArray × Int)) (hl : l.length ≤ 1000) (c : Int) : Calls Tryd.prog 33 #[errV l c] w (Trailed w l) := by
  have hGb : 0 < w.heap.size := World.block_lt_of_cell? w _ hG
  have hinf : (Tryd.prog.info? 59).map (fun i => (i.zero, i.size, i.bytes)) = some (some (.agg #[.string ⟨#[]⟩, .int .i64 0]), 2, 24) := by kernel_rfl
  go_enter Tryd.func33, Tryd.ntmps33
  go_wp2_with fail
  go_loopg [0, 3, 4] l.length (fun gk v0 v3 v4 wr => ∃ (done r : List (ByteArray × Int)) (gw : Nat) (s0 n0 e0 : Value), l = done ++ r ∧ r.length = gk ∧ v0 = errV r c ∧ wr.ownsRow w.heap.size 59 2 v3 done.length (stepCells done) ∧ v4 = .pointer (some ⟨gw, 0, none⟩) ∧ w.heap.size ≤ gw ∧ Blk wr gw 97 #[s0, n0, e0] ∧ Fr (fun _ => False) w wr)
  case atStart => exact ⟨[], l, w.heap.size, _, _, _, rfl, rfl, rfl, World.ownsRow_nil _ _ _ _, rfl, Nat.le_refl _, Blk.new _ _ _, (Fr.refl _ _).alloc _⟩
  case round =>
    obtain ⟨done, r, gw, s0, n0, e0, hl2, hgk, rfl, hown, rfl, hgw, hb, hf⟩ := hrel
    have hGr := hG.fr hf id
    cases r with
    | nil =>
      go_wp2_with fail
      refine (errors_As_w_nil hGr gw c).mono ?_
      rintro e w2 ⟨rfl, hf2⟩
      have hown2 := own_fr hown hf2 (fun _ _ => id)
      go_wp2
      go_ret
      rw [List.append_nil] at hl2
      subst hl2
      exact ⟨_, rfl, hown2, hf.then_ hf2⟩
    | cons x r =>
      go_wp2_with fail
      refine (errors_As_w hGr hb x r c).mono ?_
      rintro e w2 ⟨rfl, hb2, hf2⟩
      have hlen : done.length + 1 ≤ 1000 := by rw [hl2] at hl; simp at hl; omega
      have hown2 := own_fr hown hf2 (fun k hk e => own_ne_blk hown hb (by decide) (e ▸ hk))
      have hf3 : Fr (fun _ => False) w w2 := hf.trans hf2 (fun k hk e => by omega)
      have c0 := hb2.cell 0
      have c1 := hb2.cell 1
      have c2 := hb2.cell 2
      have hsz := hf3.size
      obtain ⟨s, n⟩ := x
      obtain ⟨t, v, hv⟩ := errV_iface r c
      rw [hv] at hb2 c0 c1 c2
      have HV := Lib.hid hv
      clear hv
      have HL := Lib.hid hl2
      clear hl2 hb hf2 hown
      go_wp2_with (at_builtin; refine wpList_append_el _ rfl (.tmp 11) (.tmp 14) 62 rfl w.heap.size 59 _ 2 24 Tryd.underlying62 hinf rfl (by decide) _ done.length (stepCells done) rfl (hown2.alloc _) w2.heap.size [.string s, .int .i64 n] rfl rfl (cell_two w2 _ _ _) (by simp [Value.oneCell']) (by omega) (by decide) (by simp; omega) ?_; intro g' c' w4 hown4 hf4; have hb4 := (hb2.alloc (Obj.cells #[.string s, .int .i64 n] 59)).fr hf4 (own_ne_blk hown2 hb2 (by decide)); have d0 := hb4.cell 0; have d1 := hb4.cell 1; have d2 := hb4.cell 2)
      go_roundg r.length
      case measure => simp only [List.length_cons] at hgk; omega
      case rel => exact ⟨done ++ [(s, n)], r, _, _, _, _, by rw [HL.out]; simp, rfl, HV.out.symm, by rw [List.length_append, stepCells_snoc]; exact hown4.alloc _, rfl, by have := hf4.size; simp at this; omega, Blk.new _ _ _, ((hf3.alloc _).own hown2 hf4 (Nat.le_refl _)).alloc _⟩
end Go.Proofs.YtkbcobbnjiekfaaDoor
