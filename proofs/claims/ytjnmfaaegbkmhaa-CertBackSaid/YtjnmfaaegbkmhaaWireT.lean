/- wire: the Writer's functions for texts and rows; Bytes. -/
import Derived.Test.YtjnmfaaegbkmhaaWire
namespace Go.Proofs.Ytjnmfaaegbkmhaa
open Go Go.RowKit
def textB (s : List Int) : List Int := count4 s.length ++ s
def numsB (l : List Int) : List Int := count4 l.length ++ l.flatMap num8
def listB (l : List (List Int)) : List Int := count4 l.length ++ l.flatMap textB
theorem Grown.of_own {w w1 w2 : World} {base : Nat} {v v1 v2 : Value} {xs : List Int} (hf1 : Fr (fun k => v.ownBlock = some k) w w1) (hk1 : ∀ k, v1.ownBlock = some k → v.ownBlock = some k ∨ w.heap.size ≤ k)
    (h2 : Own8 w2 base v2 xs) (hf2 : Fr (fun k => v1.ownBlock = some k) w1 w2) (hk2 : v2.ownBlock = v1.ownBlock ∨ v2.ownBlock = some w1.heap.size) : Grown w base v xs (.returned v2) w2 := by
  refine ⟨v2, rfl, h2, hf1.trans hf2 (fun k hlt hk => (hk1 k hk).resolve_right (by omega)), ?_⟩
  intro k hk
  rcases hk2 with h | h
  · exact hk1 k (h ▸ hk)
  · rw [hk] at h
    cases h
    exact .inr hf1.size
end Go.Proofs.Ytjnmfaaegbkmhaa
