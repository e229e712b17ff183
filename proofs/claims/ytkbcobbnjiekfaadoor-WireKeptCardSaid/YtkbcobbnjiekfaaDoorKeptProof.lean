/- WireKeptCardSaid: for every input the law returns true, and each argument reads behind the call as it read before. No condition. -/
import Derived.Test.YtkbcobbnjiekfaaDoorRows
import Derived.Test.YtkbcobbnjiekfaaDoorCards
import Derived.Test.YtkbcobbnjiekfaaDoorTie
import Derived.Test.YtkbcobbnjiekfaaDoorHandle
import Derived.Test.YtkbcobbnjiekfaaDoorKept
import Derived.Test.YtkbcobbnjiekfaaDoorOpenA
import Derived.Test.YtkbcobbnjiekfaaDoorShape
import Derived.Test.YtkbcobbnjiekfaaDoorHandle4
import Derived.WalkKit
import Derived.ProofKit
import Derived.OpenShut
import Derived.ChangeOld
import Derived.Below
import Derived.Carry
import Derived.SevenTiedAt
import Derived.JoinedOf
import Derived.LaidHandle
import Derived.LaidLaws
import Derived.ChangeVars
import Derived.Stop.Joined
namespace Go.Proofs.YtkbcobbnjiekfaaDoor
open Go Go.RowKit Go.ChangeShapes Go.WideShapes Go.ChangeAt Go.Deep Go.Joins
set_option linter.unusedVariables false
set_option maxRecDepth 100000 in
theorem lifted_wireKept (os : Os) (started : os.Started) (H : Type) (enc : TypeId × Value → H) :
    ReturnsInHanded {} Tryd.checked os 8 .any (fun w args => (Rows.wireKeptSpec.pre enc Tryd.prog Tryd.f8 [] false w args ∧ laidMetH Tryd.prog laid4 w) ∧ sizedMet enc Tryd.prog Tryd.f8 (OpenSpec.ofChange Rows.wireKeptSpec) false w args)
      (Rows.wireKeptSpec.post enc Tryd.prog Tryd.f8 false true false false) := by
  refine returnsInHanded_of_calls own_door started (by kernel_rfl) (ChangeSpec.witness_at (enc := enc) (C := Tryd.checked) (os := os) (X := fun w _ => laidMetH Tryd.prog laid4 w) false (laidWorld4 os) #[.slice none 0 0] 8 rfl (by kernel_rfl) (by kernel_rfl) (by kernel_rfl) (by kernel_rfl) (by kernel_rfl) (laidWorld4_met os _)) ?_
  intro w0 tape inp _ hsh _ hok0 hpre0 _
  obtain ⟨_, _, _, fn0, hfn0, _, _, _, _, hval0⟩ := hok0
  obtain rfl : fn0 = Tryd.f8 := Option.some.inj (hfn0.symm.trans Tryd.func8)
  obtain ⟨⟨⟨ds, gs, before, hw0, _⟩, hx0⟩, hz0⟩ := hpre0
  have hW := DataW.Whole.of_heap (w' := w0.forCall tape inp) (by rfl) hw0
  have hsz := hz0.weights hw0
  have hL0 : laidMetH Tryd.prog laid4 (w0.forCall tape inp) := laidMetH.of_heap (by rfl) hx0
  obtain ⟨tb, hT⟩ := tab_of_shape hsh
  clear hw0 hx0 hz0 hsh hfn0
  generalize w0.forCall tape inp = W at *
  generalize inp.args = args at *
  suffices hmain : Calls Tryd.prog 8 args W fun e W' => ∃ v, e = .returned v ∧ Rows.wireKeptSpec.post enc Tryd.prog Tryd.f8 false true false false W args v W' from hmain.mono fun e W' ⟨v, he, hp⟩ => by subst he; exact ChangeSpec.post_blind hp
  have hL : Laid W := laid_of_door4 hL0
  have hval : ∀ (j : Nat) t v, Tryd.f8.params[j]? = some t → args[j]? = some v → Value.okWide Tryd.prog W .any _ t v := hval0
  have hW' := hW
  obtain ⟨p, q, hA0, hV, rfl, hfz, hnd⟩ := hW
  have hA : DataW.TrodAll enc Tryd.prog W 0 (fun _ => true) true Tryd.f8.params.toList args.toList ds p := hA0
  rw [Tryd.params8] at hA hval
  obtain ⟨v0, vs0, d0, ds0, p0, q0, hargs, rfl, rfl, h0, r0⟩ := trodAll_cons hA
  obtain ⟨rfl, rfl, rfl⟩ := trodAll_nil r0
  obtain rfl : args = #[v0] := by cases args; simp_all
  obtain ⟨rfl, rfl⟩ := trodVars_none hV
  have k0 := h0
  have lt0 : ∀ x ∈ p0, x.block < W.heap.size := by obtain ⟨m, hm⟩ := k0; exact DataW.trod_lt m _ _ _ hm
  obtain ⟨a0, len0, cap0, rfl⟩ := okWide_slice Tryd.underlying24 (hval 0 24 v0 rfl rfl)
  obtain ⟨fuel0, hf0⟩ := h0
  have hcp0 := slice_cap Tryd.underlying24 hf0
  obtain ⟨A0, c0, bs0, hv0, hrow0, hll0, hbw0⟩ := open_kind_row Tryd.underlying24 Tryd.underlying5 (by kernel_rfl) hf0
  cases hv0
  clear hA0 hval0
  refine (wireKept_walk hL hT hrow0 hcp0 (bytes_wf hbw0) hll0).mono fun e W' ⟨he, hfr⟩ => ?_
  subst he
  have bel : Below W.heap.size W W' := hfr.below (Nat.le_refl _) (fun _ _ => id)
  exact ⟨_, rfl, _, _, _, [], _, [], hW', trodAll_mk1 (shut_bool Tryd.underlying4 _), (trodAll_cons_mk (Below.trod laidOut_door (by kernel_rfl) (of_decide_eq_true (by kernel_rfl)) k0 bel lt0) trodAll_mk0), rfl, bel.frame _, fun h => by cases h⟩
theorem wireKept_row : Rows.WireKeptSaid :=
  OpenClaim.holds_of_wide 8 Tryd.f8 rfl rfl rfl rfl rfl rfl rfl ⟨rfl, rfl, rfl, rfl, rfl⟩ rfl rfl rfl rfl rfl (by kernel_rfl) Tryd.func8 (by kernel_rfl)
    (of_decide_eq_true (by kernel_rfl)) (by unfold Func.isWrapper; first | (rw [if_pos (by decide +kernel)]; kernel_rfl) | (rw [if_neg (by decide +kernel)]; exact ⟨rfl, rfl⟩))
    (fun os started H enc _ => lifted_wireKept os started H enc)
theorem wireKept_holds : Rows.WireKeptCardSaid :=
  Claim7.holds_tied_plain_at .later [] [.data, .data, .data, .handle] true Rows.wireKeptCard.stood.harness true
    wireKept_row (fun _ h => by cases h) (by kernel_rfl) (fun _ h => by cases h) wireKept_row_tie rfl ⟨rfl, rfl⟩ (by kernel_rfl) rfl
    (fun f fn hf hfn => by
      obtain rfl : f = 8 := Option.some.inj ((show Tryd.prog.funcNamed "cohort/cohortlaw02.WireKept" = some 8 by kernel_rfl).symm.trans hf) |>.symm
      obtain rfl : fn = Tryd.f8 := (Option.some.inj (Tryd.func8.symm.trans hfn)).symm
      exact ⟨by kernel_rfl, fun j t ht => by
        rw [Tryd.params8] at ht
        have h := Array.mem_of_getElem? ht
        simp only [List.mem_toArray, List.mem_cons, List.not_mem_nil, or_false] at h
        subst h; exact show Tryd.prog.wantsStandIn _ = false by kernel_rfl
        ⟩)
    (by kernel_rfl)
end Go.Proofs.YtkbcobbnjiekfaaDoor
