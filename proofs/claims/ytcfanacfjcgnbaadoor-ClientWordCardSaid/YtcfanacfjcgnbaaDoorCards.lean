/-
  DERIVED. GIVEN WITH THE SEED: THE CARDS: each row of YtcfanacfjcgnbaaDoorRows.lean that lists a variable, with what it lists TIED to the program's text (the seventh form; the later family's looks); each row that meets fmt, with fmt's text TOLD by the authors' own Lean function (tested against real Go, not proved from fmt's source: count such statements apart). THE CARD IS WHAT COUNTS. Prove the row's statement (the work); the ties are given (YtcfanacfjcgnbaaDoorTie.lean); close each card by the builder's one call (the guide's Derived/Test/ToyasCard.lean, 'card_holds'). Laid BY PROGRAM, IN A SANDBOX (cutbox-door.mjs). By AI agents, Wed Nov 11 2026. No macro, syntax, notation, axiom, sorry.
-/
import Derived.Test.YtcfanacfjcgnbaaDoorRows
import GoSem.ClaimSeven
namespace Go.Proofs.YtcfanacfjcgnbaaDoor
namespace Rows

/-- THE TIED CARD OF 'cohortlaw20.ClientBelieves'. -/
def clientBelievesCard : Claim7 := { stood := { row := clientBelievesRow, standIns := [], harness := (true, "cb68f8370d4b5fbf66cb5c3ca63c3cd49be0292b60f774bddc508dababf51673"), looks := true }, kinds := [], alts := [], laidByText := true, laidKinds := [.handle], laidTests := true, laidLooks := .later }
def ClientBelievesCardSaid : Prop := Claim7.holds Tryd.pinned (.plain (OpenSpec.ofChange clientBelievesSpec)) clientBelievesCard

/-- THE TIED CARD OF 'cohortlaw20.ClientWord'. -/
def clientWordCard : Claim7 := { stood := { row := clientWordRow, standIns := [], harness := (true, "cb68f8370d4b5fbf66cb5c3ca63c3cd49be0292b60f774bddc508dababf51673"), looks := true }, kinds := [], alts := [], laidByText := true, laidKinds := [.handle], laidTests := true, laidLooks := .later }
def ClientWordCardSaid : Prop := Claim7.holds Tryd.pinned (.plain (OpenSpec.ofChange clientWordSpec)) clientWordCard

/-- THE SECOND FORM's CARD OF 'cohortlaw20.ClientBelieves'. -/
def clientBelievesUptoCard : Claim7 := { stood := { row := clientBelievesUptoRow, standIns := [], harness := (true, "cb68f8370d4b5fbf66cb5c3ca63c3cd49be0292b60f774bddc508dababf51673"), looks := true }, kinds := [], alts := [], laidByText := true, laidKinds := [.handle], laidTests := true, laidLooks := .later }
def ClientBelievesUptoCardSaid : Prop := Claim7.holds Tryd.pinned (.plain (OpenSpec.upto clientBelievesSpec)) clientBelievesUptoCard

/-- THE SECOND FORM's CARD OF 'cohortlaw20.ClientWord'. -/
def clientWordUptoCard : Claim7 := { stood := { row := clientWordUptoRow, standIns := [], harness := (true, "cb68f8370d4b5fbf66cb5c3ca63c3cd49be0292b60f774bddc508dababf51673"), looks := true }, kinds := [], alts := [], laidByText := true, laidKinds := [.handle], laidTests := true, laidLooks := .later }
def ClientWordUptoCardSaid : Prop := Claim7.holds Tryd.pinned (.plain (OpenSpec.upto clientWordSpec)) clientWordUptoCard
end Rows
end Go.Proofs.YtcfanacfjcgnbaaDoor
