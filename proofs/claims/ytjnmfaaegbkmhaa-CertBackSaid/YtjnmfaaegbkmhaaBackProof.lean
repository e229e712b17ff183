/- CertBackSaid: for every input the law returns true, and each argument reads behind the call as it read before. No condition. -/
import Derived.Test.YtjnmfaaegbkmhaaRows
import Derived.Test.YtjnmfaaegbkmhaaBack05
import Derived.Test.YtjnmfaaegbkmhaaOpen
import Derived.Test.YtjnmfaaegbkmhaaOpenA
import Derived.WalkKit
import Derived.ProofKit
import Derived.OpenShut
import Derived.ChangeOld
import Derived.Below
import Derived.Carry
namespace Go.Proofs.Ytjnmfaaegbkmhaa
open Go Go.RowKit Go.ChangeShapes Go.WideShapes Go.ChangeAt Go.Deep Go.Joins
set_option linter.unusedVariables false
theorem own_certBack : ownKnob Try.prog.godebug = none := by kernel_rfl
theorem laidOut_certBack : laidOutB Try.prog = true := by kernel_rfl
set_option maxRecDepth 100000 in
theorem lifted_certBack (os : Os) (started : os.Started) (H : Type) (enc : TypeId × Value → H) :
    ReturnsInHanded {} Try.checked os 5 .any (Rows.certBackSpec.pre6 enc Try.prog Try.f5 Rows.certBackRow.domain false) (Rows.certBackSpec.post enc Try.prog Try.f5 false true false false) := by
  refine returnsInHanded_of_change (C := Try.checked) own_certBack started (by kernel_rfl) Try.func5
    (ChangeSpec.witness6 (enc := enc) (C := Try.checked) false ⟨#[], #[.agg #[.int .i64 0, .int .i64 0, .slice none 0 0], .slice none 0 0], []⟩ 8 (by kernel_rfl) (by kernel_rfl) (by kernel_rfl) (by kernel_rfl)) ?_
  intro W base args ds gs before hval0 hW hcnd _
  have hval : ∀ (j : Nat) t v, Try.f5.params[j]? = some t → args[j]? = some v → Value.okWide Try.prog W .any base t v := hval0
  have hW' := hW
  obtain ⟨p, q, hA0, hV, rfl, hfz, hnd⟩ := hW
  have hA : DataW.TrodAll enc Try.prog W 0 (fun _ => true) true Try.f5.params.toList args.toList ds p := hA0
  rw [Try.params5] at hA hval
  obtain ⟨v0, vs0, d0, ds0, p0, q0, hargs, rfl, rfl, h0, r0⟩ := trodAll_cons hA
  obtain ⟨v1, vs1, d1, ds1, p1, q1, rfl, rfl, rfl, h1, r1⟩ := trodAll_cons r0
  obtain ⟨rfl, rfl, rfl⟩ := trodAll_nil r1
  obtain rfl : args = #[v0, v1] := by cases args; simp_all
  obtain ⟨rfl, rfl⟩ := trodVars_none hV
  have k0 := h0
  have lt0 : ∀ x ∈ p0, x.block < W.heap.size := by obtain ⟨m, hm⟩ := k0; exact DataW.trod_lt m _ _ _ hm
  have k1 := h1
  have lt1 : ∀ x ∈ p1, x.block < W.heap.size := by obtain ⟨m, hm⟩ := k1; exact DataW.trod_lt m _ _ _ hm
  obtain ⟨u0, u1, u2, y0, y1, y2, m4, rfl, _, _, t0, t1, t2⟩ := open_agg3 Try.underlying25 (by kernel_rfl) (by kernel_rfl) (hval 0 25 v0 rfl rfl) h0
  obtain ⟨G, e0, _, wG⟩ := DataW.trod_int Try.underlying3 t0
  cases e0
  obtain ⟨D, e1, _, wD⟩ := DataW.trod_int Try.underlying3 t1
  cases e1
  obtain ⟨B, cap4, xs, rfl, hint, hxl, hxw⟩ := open_int_row Try.underlying23 Try.underlying3 (by kernel_rfl) t2
  obtain ⟨a1, len1, cap1, rfl⟩ := okWide_slice Try.underlying44 (hval 1 44 v1 rfl rfl)
  obtain ⟨fuel1, hf1⟩ := h1
  obtain ⟨A1, c1, bs1, hv1, hrow1, hll1, hbw1⟩ := open_kind_row Try.underlying44 Try.underlying5 (by kernel_rfl) hf1
  cases hv1
  have yG : Wf64 G := by unfold Wf64; simpa [Lit.wf, IntKind.min, IntKind.max, IntKind.signed, IntKind.bits] using wG
  have yD : Wf64 D := by unfold Wf64; simpa [Lit.wf, IntKind.min, IntKind.max, IntKind.signed, IntKind.bits] using wD
  have yX : ∀ y ∈ xs, Wf64 y := fun y hy => by unfold Wf64; simpa [Lit.wf, IntKind.min, IntKind.max, IntKind.signed, IntKind.bits] using (hxw y hy)
  clear hA0 hval0
  refine (certBack_walk hint hxl yX yG yD hrow1 hll1 (bytes_wf hbw1)).mono fun e W' ⟨he, hfr⟩ => ?_
  subst he
  have bel : Below W.heap.size W W' := hfr.below (Nat.le_refl _) (fun _ _ => id)
  exact ⟨_, rfl, _, _, _, [], _, [], hW', trodAll_mk1 (shut_bool Try.underlying4 _), (trodAll_cons_mk (Below.trod laidOut_certBack (by kernel_rfl) (of_decide_eq_true (by kernel_rfl)) k0 bel lt0) (trodAll_cons_mk (Below.trod laidOut_certBack (by kernel_rfl) (of_decide_eq_true (by kernel_rfl)) k1 bel lt1) trodAll_mk0)), rfl, bel.frame _, fun h => by cases h⟩
theorem over_certBack : Rows.certBackRow.holds Try.pinned (OpenSpec.ofChange Rows.certBackSpec) :=
  OpenClaim.holds_of_wide 5 Try.f5 rfl rfl rfl rfl rfl rfl rfl ⟨rfl, rfl, rfl, rfl, rfl⟩ rfl rfl rfl rfl rfl (by kernel_rfl) Try.func5 (by kernel_rfl)
    (of_decide_eq_true (by kernel_rfl)) (by unfold Func.isWrapper; first | (rw [if_pos (by decide +kernel)]; kernel_rfl) | (rw [if_neg (by decide +kernel)]; exact ⟨rfl, rfl⟩))
    (fun os started H enc _ => lifted_certBack os started H enc)
theorem certBack_holds : Rows.CertBackSaid := over_certBack
end Go.Proofs.Ytjnmfaaegbkmhaa
