/- Words for the walks of layer 20's laws. -/
import Derived.Test.YtcfanacfjcgnbaaGreatDoorHead20
import Derived.Test.YtcfanacfjcgnbaaGreatDoorGreat10
namespace Go.Proofs.YtcfanacfjcgnbaaGreatDoor
open Go Go.RowKit
theorem ReadRow.mono {w : World} {F G : Nat → Prop} {A : Option Addr} {l : List (ByteArray × Int)} (h : ReadRow w F A l) (hF : ∀ k, F k → G k) : ReadRow w G A l := fun k x hx => by
  obtain ⟨b, o, h1, h2, h3⟩ := h k x hx
  exact ⟨b, o, h1, hF b h2, h3⟩
theorem WriteRow.mono {w : World} {F G : Nat → Prop} {A : Option Addr} {l : List (ByteArray × ByteArray)} (h : WriteRow w F A l) (hF : ∀ k, F k → G k) : WriteRow w G A l := fun k x hx => by
  obtain ⟨b, o, h1, h2, h3⟩ := h k x hx
  exact ⟨b, o, h1, hF b h2, h3⟩
theorem VoteRow.mono {w : World} {F G : Nat → Prop} {A : Option Addr} {l : List VoteD} (h : VoteRow w F A l) (hF : ∀ k, F k → G k) : VoteRow w G A l := fun k x hx => by
  obtain ⟨b, o, h1, h2, h3⟩ := h k x hx
  exact ⟨b, o, h1, hF b h2, h3⟩
theorem maskP_snoc (yes : Bool) (vs : List VoteD) (v : VoteD) (m : Int) : maskP yes (vs ++ [v]) m = if v.gr = 0 ∧ v.kind = 3 ∧ v.yes = yes then bits .or .i64 (maskP yes vs m) (bits .and .i64 v.mask 1023) else maskP yes vs m := by
  rw [maskP_append, maskP, maskP]
theorem take_snoc {α : Type} {l : List α} {k : Nat} {x : α} (h : l[k]? = some x) : l.take (k + 1) = l.take k ++ [x] := by
  obtain ⟨hlt, rfl⟩ := List.getElem?_eq_some_iff.1 h
  exact List.take_succ_eq_append_getElem hlt
theorem wrap_small {z : Int} (h0 : 0 ≤ z) (h1 : z ≤ 1000000) : IntKind.i64.wrap z = z := by
  unfold IntKind.wrap
  simp [IntKind.bits, IntKind.signed]
  omega
theorem voteS_len (kind d : Int) (yes : Bool) (gr mask : Int) (L : List (List Int)) (SL : List (Int × Int)) : (voteS kind d yes gr mask L SL).length ≤ SL.length + 10 := by
  unfold voteS
  split
  · exact signTo_len _ _ _ _ 10
  · omega
theorem wrap64_u8 {o m : Int} (h0 : 0 ≤ o) (h1 : 0 < m) (h2 : m ≤ 256) : 0 ≤ wrap64 (o.tmod m) ∧ wrap64 (o.tmod m) < m := by
  rw [Int.tmod_eq_emod_of_nonneg h0]
  have a := Int.emod_nonneg o (show m ≠ 0 by omega)
  have b := Int.emod_lt_of_pos o h1
  unfold wrap64
  omega
/-- These votes are signed. -/
def VR (vs : List VoteD) (xs : List Int) (lo gw : Nat) (w4 : World) (c : Nat) (wr : World) : Prop :=
  ∃ L SL nQ, WP wr lo gw L SL nQ ∧ Pl L SL xs 0 vs ∧ L.length ≤ c ∧ SL.length ≤ 10 * vs.length ∧ nQ ≤ 10 * vs.length ∧ St lo w4 wr
theorem VR.step {vs : List VoteD} {xs : List Int} {lo gw : Nat} {w4 wr w' : World} {c : Nat} {v : VoteD} {L : List (List Int)} {SL : List (Int × Int)} {nQ : Nat} (hk : vs.length < 1000) (p : Pl L SL xs 0 vs) (h1 : L.length ≤ c) (h2 : SL.length ≤ 10 * vs.length) (h3 : nQ ≤ 10 * vs.length) (hst : St lo w4 wr)
    (h' : WP w' lo gw (sayL L (kindS v.kind 0 v.yes)) (voteS v.kind 0 v.yes v.gr v.mask L SL) (nQ + 10)) (hst' : St lo wr w') : VR (vs ++ [v]) xs lo gw w4 (c + 1) w' := by
  have e1 := sayL_len L (kindS v.kind 0 v.yes)
  have e2 := voteS_len v.kind 0 v.yes v.gr v.mask L SL
  have e3 : (vs ++ [v]).length = vs.length + 1 := by simp
  refine ⟨_, _, _, h', p.vote (by omega) v, by omega, by omega, by omega, hst.trans hst'⟩
end Go.Proofs.YtcfanacfjcgnbaaGreatDoor
