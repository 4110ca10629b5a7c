/-
  DERIVED. GIVEN WITH THE SEED: THE CARDS: each row of YteidgoldnllabaaGreatDoorRows.lean that lists a variable, with what it lists TIED to the program's text (the seventh form; the later family's looks); each row that meets fmt, with fmt's text TOLD by the authors' own Lean function (tested against real Go, not proved from fmt's source: count such statements apart). THE CARD IS WHAT COUNTS. Prove the row's statement (the work); the ties are given (YteidgoldnllabaaGreatDoorTie.lean); close each card by the builder's one call (the guide's Derived/Test/ToyasCard.lean, 'card_holds'). Laid BY PROGRAM, IN A SANDBOX (cutbox-door.mjs). By AI agents, Wed Nov 11 2026. No macro, syntax, notation, axiom, sorry.
-/
import Derived.Test.YteidgoldnllabaaGreatDoorRows
import GoSem.ClaimSeven
namespace Go.Proofs.YteidgoldnllabaaGreatDoor
namespace Rows

/-- THE TIED CARD OF 'flowpipelaw16.ProblemChecks'. -/
def problemChecksCard : Claim7 := { stood := { row := problemChecksRow, standIns := [], harness := (true, "7bdf29511f6e84463ad52782bb8f4ae2821c5e2fd7897dbc991605c634695655"), looks := true }, kinds := [], alts := [], laidByText := true, laidKinds := [.data], laidTests := true, laidLooks := .later }
def ProblemChecksCardSaid : Prop := Claim7.holds Tryz.pinned (.plain (OpenSpec.ofChange problemChecksSpec)) problemChecksCard

/-- THE TIED CARD OF 'flowpipelaw16.ProblemFinds'. -/
def problemFindsCard : Claim7 := { stood := { row := problemFindsRow, standIns := [], harness := (true, "7bdf29511f6e84463ad52782bb8f4ae2821c5e2fd7897dbc991605c634695655"), looks := true }, kinds := [], alts := [], laidByText := true, laidKinds := [.data], laidTests := true, laidLooks := .later }
def ProblemFindsCardSaid : Prop := Claim7.holds Tryz.pinned (.plain (OpenSpec.ofChange problemFindsSpec)) problemFindsCard

/-- THE TIED CARD OF 'flowpipelaw16.ProblemValues'. -/
def problemValuesCard : Claim7 := { stood := { row := problemValuesRow, standIns := [], harness := (true, "7bdf29511f6e84463ad52782bb8f4ae2821c5e2fd7897dbc991605c634695655"), looks := true }, kinds := [], alts := [], laidByText := true, laidKinds := [.data], laidTests := true, laidLooks := .later }
def ProblemValuesCardSaid : Prop := Claim7.holds Tryz.pinned (.plain (OpenSpec.ofChange problemValuesSpec)) problemValuesCard

/-- THE TIED CARD OF 'flowpipelaw16.ProblemExprs'. -/
def problemExprsCard : Claim7 := { stood := { row := problemExprsRow, standIns := [], harness := (true, "7bdf29511f6e84463ad52782bb8f4ae2821c5e2fd7897dbc991605c634695655"), looks := true }, kinds := [], alts := [], laidByText := true, laidKinds := [.data], laidTests := true, laidLooks := .later }
def ProblemExprsCardSaid : Prop := Claim7.holds Tryz.pinned (.plain (OpenSpec.ofChange problemExprsSpec)) problemExprsCard

/-- THE TIED CARD OF 'flowpipelaw16.ProblemSystems'. -/
def problemSystemsCard : Claim7 := { stood := { row := problemSystemsRow, standIns := [], harness := (true, "7bdf29511f6e84463ad52782bb8f4ae2821c5e2fd7897dbc991605c634695655"), looks := true }, kinds := [], alts := [], laidByText := true, laidKinds := [.data], laidTests := true, laidLooks := .later }
def ProblemSystemsCardSaid : Prop := Claim7.holds Tryz.pinned (.plain (OpenSpec.ofChange problemSystemsSpec)) problemSystemsCard

/-- THE TIED CARD OF 'flowpipelaw16.ProblemFaults'. -/
def problemFaultsCard : Claim7 := { stood := { row := problemFaultsRow, standIns := [], harness := (true, "7bdf29511f6e84463ad52782bb8f4ae2821c5e2fd7897dbc991605c634695655"), looks := true }, kinds := [], alts := [], laidByText := true, laidKinds := [.data], laidTests := true, laidLooks := .later }
def ProblemFaultsCardSaid : Prop := Claim7.holds Tryz.pinned (.plain (OpenSpec.ofChange problemFaultsSpec)) problemFaultsCard

/-- THE TIED CARD OF 'flowpipelaw16.ProblemOrder'. -/
def problemOrderCard : Claim7 := { stood := { row := problemOrderRow, standIns := [], harness := (true, "7bdf29511f6e84463ad52782bb8f4ae2821c5e2fd7897dbc991605c634695655"), looks := true }, kinds := [], alts := [], laidByText := true, laidKinds := [.data], laidTests := true, laidLooks := .later }
def ProblemOrderCardSaid : Prop := Claim7.holds Tryz.pinned (.plain (OpenSpec.ofChange problemOrderSpec)) problemOrderCard

/-- THE TIED CARD OF 'flowpipelaw16.ProblemAccepts'. -/
def problemAcceptsCard : Claim7 := { stood := { row := problemAcceptsRow, standIns := [], harness := (true, "7bdf29511f6e84463ad52782bb8f4ae2821c5e2fd7897dbc991605c634695655"), looks := true }, kinds := [], alts := [], laidByText := true, laidKinds := [.data], laidTests := true, laidLooks := .later }
def ProblemAcceptsCardSaid : Prop := Claim7.holds Tryz.pinned (.plain (OpenSpec.ofChange problemAcceptsSpec)) problemAcceptsCard

/-- THE TIED CARD OF 'flowpipelaw16.ProblemShares'. -/
def problemSharesCard : Claim7 := { stood := { row := problemSharesRow, standIns := [], harness := (true, "7bdf29511f6e84463ad52782bb8f4ae2821c5e2fd7897dbc991605c634695655"), looks := true }, kinds := [], alts := [], laidByText := true, laidKinds := [.data], laidTests := true, laidLooks := .later }
def ProblemSharesCardSaid : Prop := Claim7.holds Tryz.pinned (.plain (OpenSpec.ofChange problemSharesSpec)) problemSharesCard

/-- THE TIED CARD OF 'flowpipelaw16.ProblemStarts'. -/
def problemStartsCard : Claim7 := { stood := { row := problemStartsRow, standIns := [], harness := (true, "7bdf29511f6e84463ad52782bb8f4ae2821c5e2fd7897dbc991605c634695655"), looks := true }, kinds := [], alts := [], laidByText := true, laidKinds := [.data], laidTests := true, laidLooks := .later }
def ProblemStartsCardSaid : Prop := Claim7.holds Tryz.pinned (.plain (OpenSpec.ofChange problemStartsSpec)) problemStartsCard

/-- THE SECOND FORM's CARD OF 'flowpipelaw16.ProblemChecks'. -/
def problemChecksUptoCard : Claim7 := { stood := { row := problemChecksUptoRow, standIns := [], harness := (true, "7bdf29511f6e84463ad52782bb8f4ae2821c5e2fd7897dbc991605c634695655"), looks := true }, kinds := [], alts := [], laidByText := true, laidKinds := [.data], laidTests := true, laidLooks := .later }
def ProblemChecksUptoCardSaid : Prop := Claim7.holds Tryz.pinned (.plain (OpenSpec.upto problemChecksSpec)) problemChecksUptoCard

/-- THE SECOND FORM's CARD OF 'flowpipelaw16.ProblemFinds'. -/
def problemFindsUptoCard : Claim7 := { stood := { row := problemFindsUptoRow, standIns := [], harness := (true, "7bdf29511f6e84463ad52782bb8f4ae2821c5e2fd7897dbc991605c634695655"), looks := true }, kinds := [], alts := [], laidByText := true, laidKinds := [.data], laidTests := true, laidLooks := .later }
def ProblemFindsUptoCardSaid : Prop := Claim7.holds Tryz.pinned (.plain (OpenSpec.upto problemFindsSpec)) problemFindsUptoCard

/-- THE SECOND FORM's CARD OF 'flowpipelaw16.ProblemValues'. -/
def problemValuesUptoCard : Claim7 := { stood := { row := problemValuesUptoRow, standIns := [], harness := (true, "7bdf29511f6e84463ad52782bb8f4ae2821c5e2fd7897dbc991605c634695655"), looks := true }, kinds := [], alts := [], laidByText := true, laidKinds := [.data], laidTests := true, laidLooks := .later }
def ProblemValuesUptoCardSaid : Prop := Claim7.holds Tryz.pinned (.plain (OpenSpec.upto problemValuesSpec)) problemValuesUptoCard

/-- THE SECOND FORM's CARD OF 'flowpipelaw16.ProblemExprs'. -/
def problemExprsUptoCard : Claim7 := { stood := { row := problemExprsUptoRow, standIns := [], harness := (true, "7bdf29511f6e84463ad52782bb8f4ae2821c5e2fd7897dbc991605c634695655"), looks := true }, kinds := [], alts := [], laidByText := true, laidKinds := [.data], laidTests := true, laidLooks := .later }
def ProblemExprsUptoCardSaid : Prop := Claim7.holds Tryz.pinned (.plain (OpenSpec.upto problemExprsSpec)) problemExprsUptoCard

/-- THE SECOND FORM's CARD OF 'flowpipelaw16.ProblemSystems'. -/
def problemSystemsUptoCard : Claim7 := { stood := { row := problemSystemsUptoRow, standIns := [], harness := (true, "7bdf29511f6e84463ad52782bb8f4ae2821c5e2fd7897dbc991605c634695655"), looks := true }, kinds := [], alts := [], laidByText := true, laidKinds := [.data], laidTests := true, laidLooks := .later }
def ProblemSystemsUptoCardSaid : Prop := Claim7.holds Tryz.pinned (.plain (OpenSpec.upto problemSystemsSpec)) problemSystemsUptoCard

/-- THE SECOND FORM's CARD OF 'flowpipelaw16.ProblemFaults'. -/
def problemFaultsUptoCard : Claim7 := { stood := { row := problemFaultsUptoRow, standIns := [], harness := (true, "7bdf29511f6e84463ad52782bb8f4ae2821c5e2fd7897dbc991605c634695655"), looks := true }, kinds := [], alts := [], laidByText := true, laidKinds := [.data], laidTests := true, laidLooks := .later }
def ProblemFaultsUptoCardSaid : Prop := Claim7.holds Tryz.pinned (.plain (OpenSpec.upto problemFaultsSpec)) problemFaultsUptoCard

/-- THE SECOND FORM's CARD OF 'flowpipelaw16.ProblemOrder'. -/
def problemOrderUptoCard : Claim7 := { stood := { row := problemOrderUptoRow, standIns := [], harness := (true, "7bdf29511f6e84463ad52782bb8f4ae2821c5e2fd7897dbc991605c634695655"), looks := true }, kinds := [], alts := [], laidByText := true, laidKinds := [.data], laidTests := true, laidLooks := .later }
def ProblemOrderUptoCardSaid : Prop := Claim7.holds Tryz.pinned (.plain (OpenSpec.upto problemOrderSpec)) problemOrderUptoCard

/-- THE SECOND FORM's CARD OF 'flowpipelaw16.ProblemAccepts'. -/
def problemAcceptsUptoCard : Claim7 := { stood := { row := problemAcceptsUptoRow, standIns := [], harness := (true, "7bdf29511f6e84463ad52782bb8f4ae2821c5e2fd7897dbc991605c634695655"), looks := true }, kinds := [], alts := [], laidByText := true, laidKinds := [.data], laidTests := true, laidLooks := .later }
def ProblemAcceptsUptoCardSaid : Prop := Claim7.holds Tryz.pinned (.plain (OpenSpec.upto problemAcceptsSpec)) problemAcceptsUptoCard

/-- THE SECOND FORM's CARD OF 'flowpipelaw16.ProblemShares'. -/
def problemSharesUptoCard : Claim7 := { stood := { row := problemSharesUptoRow, standIns := [], harness := (true, "7bdf29511f6e84463ad52782bb8f4ae2821c5e2fd7897dbc991605c634695655"), looks := true }, kinds := [], alts := [], laidByText := true, laidKinds := [.data], laidTests := true, laidLooks := .later }
def ProblemSharesUptoCardSaid : Prop := Claim7.holds Tryz.pinned (.plain (OpenSpec.upto problemSharesSpec)) problemSharesUptoCard

/-- THE SECOND FORM's CARD OF 'flowpipelaw16.ProblemStarts'. -/
def problemStartsUptoCard : Claim7 := { stood := { row := problemStartsUptoRow, standIns := [], harness := (true, "7bdf29511f6e84463ad52782bb8f4ae2821c5e2fd7897dbc991605c634695655"), looks := true }, kinds := [], alts := [], laidByText := true, laidKinds := [.data], laidTests := true, laidLooks := .later }
def ProblemStartsUptoCardSaid : Prop := Claim7.holds Tryz.pinned (.plain (OpenSpec.upto problemStartsSpec)) problemStartsUptoCard
end Rows
end Go.Proofs.YteidgoldnllabaaGreatDoor
