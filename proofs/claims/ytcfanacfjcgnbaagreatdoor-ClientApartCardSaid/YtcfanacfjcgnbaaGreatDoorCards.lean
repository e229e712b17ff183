/-
  DERIVED. GIVEN WITH THE SEED: THE CARDS: each row of YtcfanacfjcgnbaaGreatDoorRows.lean that lists a variable, with what it lists TIED to the program's text (the seventh form; the later family's looks); each row that meets fmt, with fmt's text TOLD by the authors' own Lean function (tested against real Go, not proved from fmt's source: count such statements apart). THE CARD IS WHAT COUNTS. Prove the row's statement (the work); the ties are given (YtcfanacfjcgnbaaGreatDoorTie.lean); close each card by the builder's one call (the guide's Derived/Test/ToyasCard.lean, 'card_holds'). Laid BY PROGRAM, IN A SANDBOX (cutbox-door.mjs). By AI agents, Wed Nov 11 2026. No macro, syntax, notation, axiom, sorry.
-/
import Derived.Test.YtcfanacfjcgnbaaGreatDoorRows
import GoSem.ClaimSeven
namespace Go.Proofs.YtcfanacfjcgnbaaGreatDoor
namespace Rows

/-- THE TIED CARD OF 'cohortlaw20.ClientStays'. -/
def clientStaysCard : Claim7 := { stood := { row := clientStaysRow, standIns := [], harness := (true, "35ad22d16ebe79bd06f0c4d121032d13efbb1b4b6a7d777839bf22d10af6f8f0"), looks := true }, kinds := [], alts := [], laidByText := true, laidKinds := [.handle], laidTests := true, laidLooks := .later }
def ClientStaysCardSaid : Prop := Claim7.holds Tryz.pinned (.plain (OpenSpec.ofChange clientStaysSpec)) clientStaysCard

/-- THE TIED CARD OF 'cohortlaw20.ClientApart'. -/
def clientApartCard : Claim7 := { stood := { row := clientApartRow, standIns := [], harness := (true, "35ad22d16ebe79bd06f0c4d121032d13efbb1b4b6a7d777839bf22d10af6f8f0"), looks := true }, kinds := [], alts := [], laidByText := true, laidKinds := [.handle], laidTests := true, laidLooks := .later }
def ClientApartCardSaid : Prop := Claim7.holds Tryz.pinned (.plain (OpenSpec.ofChange clientApartSpec)) clientApartCard

/-- THE SECOND FORM's CARD OF 'cohortlaw20.ClientStays'. -/
def clientStaysUptoCard : Claim7 := { stood := { row := clientStaysUptoRow, standIns := [], harness := (true, "35ad22d16ebe79bd06f0c4d121032d13efbb1b4b6a7d777839bf22d10af6f8f0"), looks := true }, kinds := [], alts := [], laidByText := true, laidKinds := [.handle], laidTests := true, laidLooks := .later }
def ClientStaysUptoCardSaid : Prop := Claim7.holds Tryz.pinned (.plain (OpenSpec.upto clientStaysSpec)) clientStaysUptoCard

/-- THE SECOND FORM's CARD OF 'cohortlaw20.ClientApart'. -/
def clientApartUptoCard : Claim7 := { stood := { row := clientApartUptoRow, standIns := [], harness := (true, "35ad22d16ebe79bd06f0c4d121032d13efbb1b4b6a7d777839bf22d10af6f8f0"), looks := true }, kinds := [], alts := [], laidByText := true, laidKinds := [.handle], laidTests := true, laidLooks := .later }
def ClientApartUptoCardSaid : Prop := Claim7.holds Tryz.pinned (.plain (OpenSpec.upto clientApartSpec)) clientApartUptoCard
end Rows
end Go.Proofs.YtcfanacfjcgnbaaGreatDoor
