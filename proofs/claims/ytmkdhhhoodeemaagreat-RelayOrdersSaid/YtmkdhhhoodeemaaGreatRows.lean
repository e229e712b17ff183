/-
  No cell of these rows narrows 'for every input' (looked for: loops, veiled, ifaces, maps, wideKeys, modest, calm, conditions, laid).
  DERIVED. THE GIVEN ROWS OF THIS SEAT. 5 by the template 'for every input the law returns true; each argument reads behind the call as it read before'; 0 by the template 'total and deterministic' (their statements: YtmkdhhhoodeemaaGreatTotals.lean).
  GIVEN WITH THE SEED: the statements are not yours to turn. If you find one false, say at which input.
  Laid BY PROGRAM, IN A SANDBOX (cutbox-rows.mjs): the forced cells as the released guide's own fill.sh prints them over the translation 644cdcaa6d35b505… (all of the seat's roots in one cut). By AI agents, Wed Nov 11 2026. No macro, syntax, notation, axiom, sorry.
-/
import Derived.Test.YtmkdhhhoodeemaaGreatChecked
import GoSem.Claim
import GoSem.ClaimJoined
import GoSem.ClaimMapViews
import Derived.JoinedTies
import Derived.KernelRfl
namespace Go.Proofs.YtmkdhhhoodeemaaGreat
/- THE CELL 'sum', in the pinned program and in every row, IS THE sha256 OF THE DUMP (.gsa) THAT YtmkdhhhoodeemaaGreatProg.lean LOADS. Nothing in Lean hashes anything: it is a label: what it is worth is what the hold of that sum in a sandbox is worth. -/
noncomputable def Tryz.pinned : Pinned := { name := "ytmkdhhhoodeemaagreat", sum := "644cdcaa6d35b505a8e337c56139589328834a666b05516e063152cc3ffe29b1", checked := Tryz.checked }
namespace Rows
def none {H : Type} : Left H := { results := [], args := [] }

/-- 'cohortlaw19.RelayOrders': WHATEVER THE INPUT: true; the input reads as it did. -/
def relayOrdersSpec : ChangeSpec := { name := "relayOrders", fn := fun _ => fun
  | [d1, d2, d3, d4, d5, d6] => { results := [.lit (.bool true)], args := [d1, d2, d3, d4, d5, d6] }
  | _ => none }
def relayOrdersRow : OpenClaim := { program := "ytmkdhhhoodeemaagreat", sum := "644cdcaa6d35b505a8e337c56139589328834a666b05516e063152cc3ffe29b1", func := "cohort/cohortlaw19.RelayOrders", spec := "relayOrders", unfollowed := true, recurses := true, plainKeys := false, apart := false }
def RelayOrdersSaid : Prop := relayOrdersRow.holds Tryz.pinned (OpenSpec.ofChange relayOrdersSpec)

/-- ITS FALSE NEIGHBOUR: 'it returns false'. Refute it at one input. -/
def relayOrdersWrong : ChangeSpec := { name := "relayOrders", fn := fun _ => fun
  | [d1, d2, d3, d4, d5, d6] => { results := [.lit (.bool false)], args := [d1, d2, d3, d4, d5, d6] }
  | _ => none }
def RelayOrdersWrongFalsely : Prop := relayOrdersRow.holds Tryz.pinned (OpenSpec.ofChange relayOrdersWrong)

/-- 'cohortlaw19.RelayCerts': WHATEVER THE INPUT: true; the input reads as it did. -/
def relayCertsSpec : ChangeSpec := { name := "relayCerts", fn := fun _ => fun
  | [d1, d2, d3, d4, d5, d6] => { results := [.lit (.bool true)], args := [d1, d2, d3, d4, d5, d6] }
  | _ => none }
def relayCertsRow : OpenClaim := { program := "ytmkdhhhoodeemaagreat", sum := "644cdcaa6d35b505a8e337c56139589328834a666b05516e063152cc3ffe29b1", func := "cohort/cohortlaw19.RelayCerts", spec := "relayCerts", unfollowed := true, recurses := true, plainKeys := false, apart := false }
def RelayCertsSaid : Prop := relayCertsRow.holds Tryz.pinned (OpenSpec.ofChange relayCertsSpec)

/-- ITS FALSE NEIGHBOUR: 'it returns false'. Refute it at one input. -/
def relayCertsWrong : ChangeSpec := { name := "relayCerts", fn := fun _ => fun
  | [d1, d2, d3, d4, d5, d6] => { results := [.lit (.bool false)], args := [d1, d2, d3, d4, d5, d6] }
  | _ => none }
def RelayCertsWrongFalsely : Prop := relayCertsRow.holds Tryz.pinned (OpenSpec.ofChange relayCertsWrong)

/-- 'cohortlaw19.RelayFew': WHATEVER THE INPUT: true; the input reads as it did. -/
def relayFewSpec : ChangeSpec := { name := "relayFew", fn := fun _ => fun
  | [d1, d2, d3] => { results := [.lit (.bool true)], args := [d1, d2, d3] }
  | _ => none }
def relayFewRow : OpenClaim := { program := "ytmkdhhhoodeemaagreat", sum := "644cdcaa6d35b505a8e337c56139589328834a666b05516e063152cc3ffe29b1", func := "cohort/cohortlaw19.RelayFew", spec := "relayFew", unfollowed := true, recurses := true, plainKeys := false, apart := false }
def RelayFewSaid : Prop := relayFewRow.holds Tryz.pinned (OpenSpec.ofChange relayFewSpec)

/-- ITS FALSE NEIGHBOUR: 'it returns false'. Refute it at one input. -/
def relayFewWrong : ChangeSpec := { name := "relayFew", fn := fun _ => fun
  | [d1, d2, d3] => { results := [.lit (.bool false)], args := [d1, d2, d3] }
  | _ => none }
def RelayFewWrongFalsely : Prop := relayFewRow.holds Tryz.pinned (OpenSpec.ofChange relayFewWrong)

/-- 'cohortlaw19.RelayWords': WHATEVER THE INPUT: true; the input reads as it did. -/
def relayWordsSpec : ChangeSpec := { name := "relayWords", fn := fun _ => fun
  | [d1, d2] => { results := [.lit (.bool true)], args := [d1, d2] }
  | _ => none }
def relayWordsRow : OpenClaim := { program := "ytmkdhhhoodeemaagreat", sum := "644cdcaa6d35b505a8e337c56139589328834a666b05516e063152cc3ffe29b1", func := "cohort/cohortlaw19.RelayWords", spec := "relayWords", unfollowed := true, recurses := true, plainKeys := false, apart := false }
def RelayWordsSaid : Prop := relayWordsRow.holds Tryz.pinned (OpenSpec.ofChange relayWordsSpec)

/-- ITS FALSE NEIGHBOUR: 'it returns false'. Refute it at one input. -/
def relayWordsWrong : ChangeSpec := { name := "relayWords", fn := fun _ => fun
  | [d1, d2] => { results := [.lit (.bool false)], args := [d1, d2] }
  | _ => none }
def RelayWordsWrongFalsely : Prop := relayWordsRow.holds Tryz.pinned (OpenSpec.ofChange relayWordsWrong)

/-- 'cohortlaw19.RelayBack': WHATEVER THE INPUT: true; the input reads as it did. -/
def relayBackSpec : ChangeSpec := { name := "relayBack", fn := fun _ => fun
  | [d1, d2] => { results := [.lit (.bool true)], args := [d1, d2] }
  | _ => none }
def relayBackRow : OpenClaim := { program := "ytmkdhhhoodeemaagreat", sum := "644cdcaa6d35b505a8e337c56139589328834a666b05516e063152cc3ffe29b1", func := "cohort/cohortlaw19.RelayBack", spec := "relayBack", unfollowed := true, recurses := true, plainKeys := false, apart := false }
def RelayBackSaid : Prop := relayBackRow.holds Tryz.pinned (OpenSpec.ofChange relayBackSpec)

/-- ITS FALSE NEIGHBOUR: 'it returns false'. Refute it at one input. -/
def relayBackWrong : ChangeSpec := { name := "relayBack", fn := fun _ => fun
  | [d1, d2] => { results := [.lit (.bool false)], args := [d1, d2] }
  | _ => none }
def RelayBackWrongFalsely : Prop := relayBackRow.holds Tryz.pinned (OpenSpec.ofChange relayBackWrong)

/- THE SECOND FORM. 'bulk': how many values and letters a reading holds, each counted each time it is reached (what is shared counts as often as it is met; a slice's spare places count too). A statement '..UptoSaid' is the law's where the arguments, and the package variables that the reading takes, are together of bulk at most 1048576: NARROWER than '..Said'. Prove '..Said' where nothing that the law and all that it calls make is longer than what came in: it says more and counts as full. Else prove '..UptoSaid'. A law counts once. -/
mutual
def uptoBulk {H : Type} : DataW H → Nat
  | .lit (.string bytes) => bytes.length + 1
  | .lit _ => 1
  | .nil => 1
  | .ptr d => uptoBulk d + 1
  | .slice elems spare => uptoBulkAll elems + uptoBulkAll spare + 1
  | .agg parts => uptoBulkAll parts + 1
  | .iface _ d => uptoBulk d + 1
  | .map entries => uptoBulkEntries entries + 1
  | .held _ => 1
def uptoBulkAll {H : Type} : List (DataW H) → Nat
  | [] => 0
  | d :: r => uptoBulk d + uptoBulkAll r
def uptoBulkEntries {H : Type} : List (Lit × DataW H) → Nat
  | [] => 0
  | x :: r => uptoBulkEntry x + uptoBulkEntries r
def uptoBulkEntry {H : Type} : Lit × DataW H → Nat
  | (.string bytes, d) => bytes.length + uptoBulk d + 1
  | (_, d) => uptoBulk d + 1
 end
def uptoSmall : (H : Type) → List (DataW H) → Bool := fun _ ds => decide (uptoBulkAll ds ≤ 1048576)
def OpenSpec.upto (s : _root_.Go.ChangeSpec) : _root_.Go.OpenSpec := { _root_.Go.OpenSpec.ofChange s with cond := some uptoSmall }

/-- 'cohortlaw19.RelayOrders', WHERE WHAT IT READS IS OF BULK AT MOST 1048576: true; the input reads as it did. -/
def relayOrdersUptoRow : OpenClaim := { program := "ytmkdhhhoodeemaagreat", sum := "644cdcaa6d35b505a8e337c56139589328834a666b05516e063152cc3ffe29b1", func := "cohort/cohortlaw19.RelayOrders", spec := "relayOrders", unfollowed := true, recurses := true, plainKeys := false, apart := false, narrowed := true }
def RelayOrdersUptoSaid : Prop := relayOrdersUptoRow.holds Tryz.pinned (OpenSpec.upto relayOrdersSpec)

/-- 'cohortlaw19.RelayCerts', WHERE WHAT IT READS IS OF BULK AT MOST 1048576: true; the input reads as it did. -/
def relayCertsUptoRow : OpenClaim := { program := "ytmkdhhhoodeemaagreat", sum := "644cdcaa6d35b505a8e337c56139589328834a666b05516e063152cc3ffe29b1", func := "cohort/cohortlaw19.RelayCerts", spec := "relayCerts", unfollowed := true, recurses := true, plainKeys := false, apart := false, narrowed := true }
def RelayCertsUptoSaid : Prop := relayCertsUptoRow.holds Tryz.pinned (OpenSpec.upto relayCertsSpec)

/-- 'cohortlaw19.RelayFew', WHERE WHAT IT READS IS OF BULK AT MOST 1048576: true; the input reads as it did. -/
def relayFewUptoRow : OpenClaim := { program := "ytmkdhhhoodeemaagreat", sum := "644cdcaa6d35b505a8e337c56139589328834a666b05516e063152cc3ffe29b1", func := "cohort/cohortlaw19.RelayFew", spec := "relayFew", unfollowed := true, recurses := true, plainKeys := false, apart := false, narrowed := true }
def RelayFewUptoSaid : Prop := relayFewUptoRow.holds Tryz.pinned (OpenSpec.upto relayFewSpec)

/-- 'cohortlaw19.RelayWords', WHERE WHAT IT READS IS OF BULK AT MOST 1048576: true; the input reads as it did. -/
def relayWordsUptoRow : OpenClaim := { program := "ytmkdhhhoodeemaagreat", sum := "644cdcaa6d35b505a8e337c56139589328834a666b05516e063152cc3ffe29b1", func := "cohort/cohortlaw19.RelayWords", spec := "relayWords", unfollowed := true, recurses := true, plainKeys := false, apart := false, narrowed := true }
def RelayWordsUptoSaid : Prop := relayWordsUptoRow.holds Tryz.pinned (OpenSpec.upto relayWordsSpec)

/-- 'cohortlaw19.RelayBack', WHERE WHAT IT READS IS OF BULK AT MOST 1048576: true; the input reads as it did. -/
def relayBackUptoRow : OpenClaim := { program := "ytmkdhhhoodeemaagreat", sum := "644cdcaa6d35b505a8e337c56139589328834a666b05516e063152cc3ffe29b1", func := "cohort/cohortlaw19.RelayBack", spec := "relayBack", unfollowed := true, recurses := true, plainKeys := false, apart := false, narrowed := true }
def RelayBackUptoSaid : Prop := relayBackUptoRow.holds Tryz.pinned (OpenSpec.upto relayBackSpec)

end Rows
end Go.Proofs.YtmkdhhhoodeemaaGreat
