/-
  DERIVED. GIVEN WITH THE SEED: THE CARDS: each row of YtjnmfaaegbkmhaaDoorRows.lean that lists a variable, with what it lists TIED to the program's text (the seventh form; the later family's looks); each row that meets fmt, with fmt's text TOLD by the authors' own Lean function (tested against real Go, not proved from fmt's source: count such statements apart). THE CARD IS WHAT COUNTS. Prove the row's statement (the work); the ties are given (YtjnmfaaegbkmhaaDoorTie.lean); close each card by the builder's one call (the guide's Derived/Test/ToyasCard.lean, 'card_holds'). Laid BY PROGRAM, IN A SANDBOX (cutbox-door.mjs). By AI agents, Wed Nov 11 2026. No macro, syntax, notation, axiom, sorry.
-/
import Derived.Test.YtjnmfaaegbkmhaaDoorRows
import GoSem.ClaimSeven
namespace Go.Proofs.YtjnmfaaegbkmhaaDoor
namespace Rows

/-- THE TIED CARD OF 'cohortlaw05.CertMore'. -/
def certMoreCard : Claim7 := { stood := { row := certMoreRow, standIns := [], harness := (true, "3b958d4cd35ee9336a58a6b822d397c5da507760699c18818504082dcf728b3c"), looks := true }, kinds := [], alts := [], laidByText := true, laidKinds := [.handle], laidTests := true, laidLooks := .later }
def CertMoreCardSaid : Prop := Claim7.holds Tryd.pinned (.plain (OpenSpec.ofChange certMoreSpec)) certMoreCard

/-- THE TIED CARD OF 'cohortlaw05.CertNone'. -/
def certNoneCard : Claim7 := { stood := { row := certNoneRow, standIns := [], harness := (true, "3b958d4cd35ee9336a58a6b822d397c5da507760699c18818504082dcf728b3c"), looks := true }, kinds := [], alts := [], laidByText := true, laidKinds := [.handle], laidTests := true, laidLooks := .later }
def CertNoneCardSaid : Prop := Claim7.holds Tryd.pinned (.plain (OpenSpec.ofChange certNoneSpec)) certNoneCard

/-- THE TIED CARD OF 'cohortlaw05.CertTells'. -/
def certTellsCard : Claim7 := { stood := { row := certTellsRow, standIns := [], harness := (true, "3b958d4cd35ee9336a58a6b822d397c5da507760699c18818504082dcf728b3c"), looks := true }, kinds := [], alts := [], laidByText := true, laidKinds := [.handle], laidTests := true, laidLooks := .later }
def CertTellsCardSaid : Prop := Claim7.holds Tryd.pinned (.plain (OpenSpec.ofChange certTellsSpec)) certTellsCard

/-- THE SECOND FORM's CARD OF 'cohortlaw05.CertMore'. -/
def certMoreUptoCard : Claim7 := { stood := { row := certMoreUptoRow, standIns := [], harness := (true, "3b958d4cd35ee9336a58a6b822d397c5da507760699c18818504082dcf728b3c"), looks := true }, kinds := [], alts := [], laidByText := true, laidKinds := [.handle], laidTests := true, laidLooks := .later }
def CertMoreUptoCardSaid : Prop := Claim7.holds Tryd.pinned (.plain (OpenSpec.upto certMoreSpec)) certMoreUptoCard

/-- THE SECOND FORM's CARD OF 'cohortlaw05.CertNone'. -/
def certNoneUptoCard : Claim7 := { stood := { row := certNoneUptoRow, standIns := [], harness := (true, "3b958d4cd35ee9336a58a6b822d397c5da507760699c18818504082dcf728b3c"), looks := true }, kinds := [], alts := [], laidByText := true, laidKinds := [.handle], laidTests := true, laidLooks := .later }
def CertNoneUptoCardSaid : Prop := Claim7.holds Tryd.pinned (.plain (OpenSpec.upto certNoneSpec)) certNoneUptoCard

/-- THE SECOND FORM's CARD OF 'cohortlaw05.CertTells'. -/
def certTellsUptoCard : Claim7 := { stood := { row := certTellsUptoRow, standIns := [], harness := (true, "3b958d4cd35ee9336a58a6b822d397c5da507760699c18818504082dcf728b3c"), looks := true }, kinds := [], alts := [], laidByText := true, laidKinds := [.handle], laidTests := true, laidLooks := .later }
def CertTellsUptoCardSaid : Prop := Claim7.holds Tryd.pinned (.plain (OpenSpec.upto certTellsSpec)) certTellsUptoCard
end Rows
end Go.Proofs.YtjnmfaaegbkmhaaDoor
