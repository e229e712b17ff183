/-
  DERIVED. GIVEN WITH THE SEED: THE CARDS: each row of YtkbcobbnjiekfaaDoorRows.lean that lists a variable, with what it lists TIED to the program's text (the seventh form; the later family's looks); each row that meets fmt, with fmt's text TOLD by the authors' own Lean function (tested against real Go, not proved from fmt's source: count such statements apart). THE CARD IS WHAT COUNTS. Prove the row's statement (the work); the ties are given (YtkbcobbnjiekfaaDoorTie.lean); close each card by the builder's one call (the guide's Derived/Test/ToyasCard.lean, 'card_holds'). Laid BY PROGRAM, IN A SANDBOX (cutbox-door.mjs). By AI agents, Wed Nov 11 2026. No macro, syntax, notation, axiom, sorry.
-/
import Derived.Test.YtkbcobbnjiekfaaDoorRows
import GoSem.ClaimSeven
namespace Go.Proofs.YtkbcobbnjiekfaaDoor
namespace Rows

/-- THE TIED CARD OF 'cohortlaw02.WireInts'. -/
def wireIntsCard : Claim7 := { stood := { row := wireIntsRow, standIns := [], harness := (true, "f8d50e47727b54304e16d86ab73286ce58eda2bd79eb761c1a033e341b15d662"), looks := true }, kinds := [], alts := [], laidByText := true, laidKinds := [.handle], laidTests := true, laidLooks := .later }
def WireIntsCardSaid : Prop := Claim7.holds Tryd.pinned (.plain (OpenSpec.ofChange wireIntsSpec)) wireIntsCard

/-- THE TIED CARD OF 'cohortlaw02.WireSizes'. -/
def wireSizesCard : Claim7 := { stood := { row := wireSizesRow, standIns := [], harness := (true, "f8d50e47727b54304e16d86ab73286ce58eda2bd79eb761c1a033e341b15d662"), looks := true }, kinds := [], alts := [], laidByText := true, laidKinds := [.handle], laidTests := true, laidLooks := .later }
def WireSizesCardSaid : Prop := Claim7.holds Tryd.pinned (.plain (OpenSpec.ofChange wireSizesSpec)) wireSizesCard

/-- THE TIED CARD OF 'cohortlaw02.WireStops'. -/
def wireStopsCard : Claim7 := { stood := { row := wireStopsRow, standIns := [], harness := (true, "f8d50e47727b54304e16d86ab73286ce58eda2bd79eb761c1a033e341b15d662"), looks := true }, kinds := [], alts := [], laidByText := true, laidKinds := [.handle], laidTests := true, laidLooks := .later }
def WireStopsCardSaid : Prop := Claim7.holds Tryd.pinned (.plain (OpenSpec.ofChange wireStopsSpec)) wireStopsCard

/-- THE TIED CARD OF 'cohortlaw02.WireWrites'. -/
def wireWritesCard : Claim7 := { stood := { row := wireWritesRow, standIns := [], harness := (true, "f8d50e47727b54304e16d86ab73286ce58eda2bd79eb761c1a033e341b15d662"), looks := true }, kinds := [], alts := [], laidByText := true, laidKinds := [.handle], laidTests := true, laidLooks := .later }
def WireWritesCardSaid : Prop := Claim7.holds Tryd.pinned (.plain (OpenSpec.ofChange wireWritesSpec)) wireWritesCard

/-- THE TIED CARD OF 'cohortlaw02.WireBack'. -/
def wireBackCard : Claim7 := { stood := { row := wireBackRow, standIns := [], harness := (true, "f8d50e47727b54304e16d86ab73286ce58eda2bd79eb761c1a033e341b15d662"), looks := true }, kinds := [], alts := [], laidByText := true, laidKinds := [.handle], laidTests := true, laidLooks := .later }
def WireBackCardSaid : Prop := Claim7.holds Tryd.pinned (.plain (OpenSpec.ofChange wireBackSpec)) wireBackCard

/-- THE TIED CARD OF 'cohortlaw02.WireKept'. -/
def wireKeptCard : Claim7 := { stood := { row := wireKeptRow, standIns := [], harness := (true, "f8d50e47727b54304e16d86ab73286ce58eda2bd79eb761c1a033e341b15d662"), looks := true }, kinds := [], alts := [], laidByText := true, laidKinds := [.data, .data, .data, .handle], laidTests := true, laidLooks := .later }
def WireKeptCardSaid : Prop := Claim7.holds Tryd.pinned (.plain (OpenSpec.ofChange wireKeptSpec)) wireKeptCard

/-- THE SECOND FORM's CARD OF 'cohortlaw02.WireInts'. -/
def wireIntsUptoCard : Claim7 := { stood := { row := wireIntsUptoRow, standIns := [], harness := (true, "f8d50e47727b54304e16d86ab73286ce58eda2bd79eb761c1a033e341b15d662"), looks := true }, kinds := [], alts := [], laidByText := true, laidKinds := [.handle], laidTests := true, laidLooks := .later }
def WireIntsUptoCardSaid : Prop := Claim7.holds Tryd.pinned (.plain (OpenSpec.upto wireIntsSpec)) wireIntsUptoCard

/-- THE SECOND FORM's CARD OF 'cohortlaw02.WireSizes'. -/
def wireSizesUptoCard : Claim7 := { stood := { row := wireSizesUptoRow, standIns := [], harness := (true, "f8d50e47727b54304e16d86ab73286ce58eda2bd79eb761c1a033e341b15d662"), looks := true }, kinds := [], alts := [], laidByText := true, laidKinds := [.handle], laidTests := true, laidLooks := .later }
def WireSizesUptoCardSaid : Prop := Claim7.holds Tryd.pinned (.plain (OpenSpec.upto wireSizesSpec)) wireSizesUptoCard

/-- THE SECOND FORM's CARD OF 'cohortlaw02.WireStops'. -/
def wireStopsUptoCard : Claim7 := { stood := { row := wireStopsUptoRow, standIns := [], harness := (true, "f8d50e47727b54304e16d86ab73286ce58eda2bd79eb761c1a033e341b15d662"), looks := true }, kinds := [], alts := [], laidByText := true, laidKinds := [.handle], laidTests := true, laidLooks := .later }
def WireStopsUptoCardSaid : Prop := Claim7.holds Tryd.pinned (.plain (OpenSpec.upto wireStopsSpec)) wireStopsUptoCard

/-- THE SECOND FORM's CARD OF 'cohortlaw02.WireWrites'. -/
def wireWritesUptoCard : Claim7 := { stood := { row := wireWritesUptoRow, standIns := [], harness := (true, "f8d50e47727b54304e16d86ab73286ce58eda2bd79eb761c1a033e341b15d662"), looks := true }, kinds := [], alts := [], laidByText := true, laidKinds := [.handle], laidTests := true, laidLooks := .later }
def WireWritesUptoCardSaid : Prop := Claim7.holds Tryd.pinned (.plain (OpenSpec.upto wireWritesSpec)) wireWritesUptoCard

/-- THE SECOND FORM's CARD OF 'cohortlaw02.WireBack'. -/
def wireBackUptoCard : Claim7 := { stood := { row := wireBackUptoRow, standIns := [], harness := (true, "f8d50e47727b54304e16d86ab73286ce58eda2bd79eb761c1a033e341b15d662"), looks := true }, kinds := [], alts := [], laidByText := true, laidKinds := [.handle], laidTests := true, laidLooks := .later }
def WireBackUptoCardSaid : Prop := Claim7.holds Tryd.pinned (.plain (OpenSpec.upto wireBackSpec)) wireBackUptoCard

/-- THE SECOND FORM's CARD OF 'cohortlaw02.WireKept'. -/
def wireKeptUptoCard : Claim7 := { stood := { row := wireKeptUptoRow, standIns := [], harness := (true, "f8d50e47727b54304e16d86ab73286ce58eda2bd79eb761c1a033e341b15d662"), looks := true }, kinds := [], alts := [], laidByText := true, laidKinds := [.data, .data, .data, .handle], laidTests := true, laidLooks := .later }
def WireKeptUptoCardSaid : Prop := Claim7.holds Tryd.pinned (.plain (OpenSpec.upto wireKeptSpec)) wireKeptUptoCard
end Rows
end Go.Proofs.YtkbcobbnjiekfaaDoor
