/- Bytes as a string. -/
import Derived.Test.YtcfanacfjcgnbaaDoorBytes
import Derived.Laws.BytesArg
namespace Go.Proofs.YtcfanacfjcgnbaaDoor
open Go Go.RowKit
theorem conv_bytes {w : World} {F : Nat → Prop} {A : Option Addr} {xs : List Int} {n cap : Nat} (h : ByteRow w F A xs) (hn : n = xs.length) : (convert 62 9 (.slice A n cap)).run Tryd.prog w = .ok (.string (strOfNums xs)) w := by
  subst hn
  cases xs with
  | nil =>
    cases A with
    | none => exact run_convert_bytes_nil w 62 5 Tryd.underlying62 Tryd.underlying5 0 cap 9 Tryd.underlying9
    | some a =>
      rw [List.length_nil, run_convert_bytes_string w 62 9 5 _ _ cap Tryd.underlying62 Tryd.underlying5 Tryd.underlying9, run_bytesToString w a 0 cap [] (by simp [loadCells, loadCellsFrom])]
      rfl
  | cons x r =>
    obtain ⟨b, o, rfl, _, hat⟩ := h.at (by simp)
    refine run_convert_bytes_arg w 62 5 Tryd.underlying62 Tryd.underlying5 b o _ cap (x :: r) rfl ?_ 9 Tryd.underlying9
    intro i hi
    refine hat i _ ?_
    rw [List.getD_eq_getElem?_getD, List.getElem?_eq_getElem hi]
    rfl
end Go.Proofs.YtcfanacfjcgnbaaDoor
