/- Bytes as a string. -/
import Derived.Test.YtcfanacfjcgnbaaGreatDoorBytes
import Derived.Laws.BytesArg
namespace Go.Proofs.YtcfanacfjcgnbaaGreatDoor
open Go Go.RowKit
theorem conv_bytes {w : World} {F : Nat → Prop} {A : Option Addr} {xs : List Int} {n cap : Nat} (h : ByteRow w F A xs) (hn : n = xs.length) : (convert 60 9 (.slice A n cap)).run Tryz.prog w = .ok (.string (strOfNums xs)) w := by
  subst hn
  cases xs with
  | nil =>
    cases A with
    | none => exact run_convert_bytes_nil w 60 5 Tryz.underlying60 Tryz.underlying5 0 cap 9 Tryz.underlying9
    | some a =>
      rw [List.length_nil, run_convert_bytes_string w 60 9 5 _ _ cap Tryz.underlying60 Tryz.underlying5 Tryz.underlying9, run_bytesToString w a 0 cap [] (by simp [loadCells, loadCellsFrom])]
      rfl
  | cons x r =>
    obtain ⟨b, o, rfl, _, hat⟩ := h.at (by simp)
    refine run_convert_bytes_arg w 60 5 Tryz.underlying60 Tryz.underlying5 b o _ cap (x :: r) rfl ?_ 9 Tryz.underlying9
    intro i hi
    refine hat i _ ?_
    rw [List.getD_eq_getElem?_getD, List.getElem?_eq_getElem hi]
    rfl
end Go.Proofs.YtcfanacfjcgnbaaGreatDoor
