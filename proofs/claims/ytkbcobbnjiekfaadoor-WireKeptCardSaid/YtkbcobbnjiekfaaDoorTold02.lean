/- cohortlaw02.told. -/
import Derived.Test.YtkbcobbnjiekfaaDoorSteps
import Derived.Test.YtkbcobbnjiekfaaDoorHead02
import Derived.Deep.RegionHeld3
import Derived.Test.YtkbcobbnjiekfaaDoorRefW
namespace Go.Proofs.YtkbcobbnjiekfaaDoor
open Go Go.RowKit
theorem StepRow.new (w : World) (s : ByteArray × Int) : StepRow (w.alloc (.cells #[.string s.1, .int .i64 s.2] 59)) (some ⟨w.heap.size, 0, none⟩) [s] := by
  intro k x hx
  cases k with
  | zero =>
    simp only [List.getElem?_cons_zero, Option.some.injEq] at hx
    subst hx
    exact ⟨w.heap.size, 0, rfl, (Blk.new w 59 #[.string s.1, .int .i64 s.2]).cell 0, (Blk.new w 59 #[.string s.1, .int .i64 s.2]).cell 1⟩
  | succ k => simp at hx
theorem told02_none (w : World) (v : ByteArray) (n : Int) : Calls Tryd.prog 30 #[.nilIface, .int .i64 0, .agg #[.string v, .int .i64 n]] w (Fine w true) := by
  go_enter Tryd.func30, Tryd.ntmps30
  go_wp2
  go_ret
  exact ⟨rfl, (Fr.refl _ _).alloc _⟩
theorem same_one {w : World} {A A' : Option Addr} {s : ByteArray × Int} {cap cap' : Nat} (h : StepRow w A [s]) (h' : StepRow w A' [s]) : Calls Tryd.prog 62 #[.slice A 1 cap, .slice A' 1 cap'] w (Fine w true) :=
  (ref01_Same h h' (by simp)).mono fun e w' ⟨he, hf⟩ => ⟨by rw [he, decide_eq_true rfl], hf⟩
set_option maxRecDepth 100000 in
set_option maxHeartbeats 1000000 in
theorem told02_some {w : World} (hG : Laid w) (s : ByteArray × Int) (c : Int) (hc : c ≠ 0) :
    Calls Tryd.prog 30 #[errV [s] c, .int .i64 c, .agg #[.string s.1, .int .i64 s.2]] w (Fine w true) := by
  have hGb : 0 < w.heap.size := World.block_lt_of_cell? w _ hG
  obtain ⟨t, v, hv⟩ := errV_iface [s] c
  have HC0 := fun (w : World) hG => @fault_Code w hG [s] c
  have HT0 := fun (w : World) hG => @fault_Trail w hG [s] (by simp) c
  rw [hv] at HC0 HT0 ⊢
  have HC := Lib.hid HC0
  have HT := Lib.hid HT0
  clear hv HC0 HT0
  have hc1 : (c == 0) = false := by simp [hc]
  have hb0 := Blk.new w 59 #[.string s.1, .int .i64 s.2]
  have hf0 : Fr (fun _ => False) w (w.alloc (Obj.cells #[.string s.1, .int .i64 s.2] 59)) := (Fr.refl _ _).alloc _
  have hG0 := hG.fr hf0 id
  clear hG hc
  go_enter Tryd.func30, Tryd.ntmps30
  go_wp2_with fail
  generalize hW : w.alloc (Obj.cells #[.string s.1, .int .i64 s.2] 59) = w0 at hb0 hf0 hG0 ⊢
  clear hW
  have five : ∀ w', Fr (fun _ => False) w0 w' → w'.cell? ⟨w.heap.size, 0, none⟩ = some (.string s.1) ∧ w'.cell? ⟨w.heap.size, 1, none⟩ = some (.int .i64 s.2) := fun w' h => ⟨(hb0.fr h id).cell 0, (hb0.fr h id).cell 1⟩
  have f0 : Fr (fun _ => False) w0 w0.drew := (Fr.refl _ _).drew
  go_region_held3 (fun w' => w'.cell? ⟨w.heap.size, 0, none⟩ = some (.string s.1) ∧ w'.cell? ⟨w.heap.size, 1, none⟩ = some (.int .i64 s.2)) (first | with_reducible exact five _ f3 | with_reducible exact five _ f2b | with_reducible exact five _ f2a | with_reducible exact five _ f2 | with_reducible exact five _ f1a | with_reducible exact five _ f1 | with_reducible exact five _ f0) (first | (go_at_call 62; refine (same_one r2 ((StepRow.new w1 s).fr hf2b (fun _ _ _ => id))).mono ?_; rintro e w3 ⟨rfl, hf3⟩; have f3 := f2b.then_ hf3) | (go_at_call 62; refine (same_one (r2.fr ((Fr.refl (fun _ => False) w2).alloc (Obj.cells #[.string s.1, .int .i64 s.2] 59)) (fun _ _ _ => id)) (StepRow.new w2 s)).mono ?_; rintro e w3 ⟨rfl, hf3⟩; have f3 := f2a.then_ hf3) | (go_at_call 33; refine (HT.out _ (hG0.fr f1a id)).mono ?_; rintro e w2 ⟨v2, rfl, hown2, hf2b⟩; obtain ⟨A2, cap2, rfl, _, _⟩ := own_form hown2; have r2 := StepRow.of_own hown2; have f2b := f1a.then_ hf2b) | (go_at_call 33; refine (HT.out _ (hG0.fr f1 id)).mono ?_; rintro e w2 ⟨v2, rfl, hown2, hf2⟩; obtain ⟨A2, cap2, rfl, _, _⟩ := own_form hown2; have r2 := StepRow.of_own hown2; have f2 := f1.then_ hf2; have f2a := f2.alloc (Obj.cells #[.string s.1, .int .i64 s.2] 59)) | (go_at_call 15; refine (HC.out _ (hG0.fr f0 id)).mono ?_; rintro e w1 ⟨rfl, hf1⟩; have f1 := f0.then_ hf1; have f1a := f1.alloc (Obj.cells #[.string s.1, .int .i64 s.2] 59)))
  all_goals go_wp2
  all_goals go_ret
  all_goals exact ⟨rfl, hf0.then_ f3⟩
theorem told02_any {w : World} (hG : Laid w) (bad : Option Nat) : Calls Tryd.prog 30 #[errW bad, .int .i64 (badC bad), .agg #[.string (⟨#[119, 114, 105, 116, 101]⟩ : ByteArray), .int .i64 (badA bad)]] w (Fine w true) := by
  cases bad with
  | none => exact told02_none w _ _
  | some a => exact told02_some hG ((⟨#[119, 114, 105, 116, 101]⟩ : ByteArray), (a : Int)) 2 (by decide)
end Go.Proofs.YtkbcobbnjiekfaaDoor
