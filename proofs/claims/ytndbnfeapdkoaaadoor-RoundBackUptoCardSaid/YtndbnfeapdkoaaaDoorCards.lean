/-
  DERIVED. GIVEN WITH THE SEED: THE CARDS: each row of YtndbnfeapdkoaaaDoorRows.lean that lists a variable, with what it lists TIED to the program's text (the seventh form; the later family's looks); each row that meets fmt, with fmt's text TOLD by the authors' own Lean function (tested against real Go, not proved from fmt's source: count such statements apart). THE CARD IS WHAT COUNTS. Prove the row's statement (the work); the ties are given (YtndbnfeapdkoaaaDoorTie.lean); close each card by the builder's one call (the guide's Derived/Test/ToyasCard.lean, 'card_holds'). Laid BY PROGRAM, IN A SANDBOX (cutbox-door.mjs). By AI agents, Wed Nov 11 2026. No macro, syntax, notation, axiom, sorry.
-/
import Derived.Test.YtndbnfeapdkoaaaDoorRows
import GoSem.ClaimSeven
namespace Go.Proofs.YtndbnfeapdkoaaaDoor
namespace Rows

/-- THE TIED CARD OF 'flowpipelaw03.RoundQuotients'. -/
def roundQuotientsCard : Claim7 := { stood := { row := roundQuotientsRow, standIns := [], harness := (true, "4cebaf43500f7ef3b7baf8778f42e659d91cda810e5319202fea2f4938e6ea6d"), looks := false }, kinds := [], alts := [], laidByText := true, laidKinds := [.data], laidTests := true, laidLooks := .later }
def RoundQuotientsCardSaid : Prop := Claim7.holds Tryd.pinned (.plain (OpenSpec.ofChange roundQuotientsSpec)) roundQuotientsCard

/-- THE TIED CARD OF 'flowpipelaw03.RoundBack'. -/
def roundBackCard : Claim7 := { stood := { row := roundBackRow, standIns := [], harness := (true, "4cebaf43500f7ef3b7baf8778f42e659d91cda810e5319202fea2f4938e6ea6d"), looks := false }, kinds := [], alts := [], laidByText := true, laidKinds := [.data], laidTests := true, laidLooks := .later }
def RoundBackCardSaid : Prop := Claim7.holds Tryd.pinned (.plain (OpenSpec.ofChange roundBackSpec)) roundBackCard

/-- THE SECOND FORM's CARD OF 'flowpipelaw03.RoundQuotients'. -/
def roundQuotientsUptoCard : Claim7 := { stood := { row := roundQuotientsUptoRow, standIns := [], harness := (true, "4cebaf43500f7ef3b7baf8778f42e659d91cda810e5319202fea2f4938e6ea6d"), looks := false }, kinds := [], alts := [], laidByText := true, laidKinds := [.data], laidTests := true, laidLooks := .later }
def RoundQuotientsUptoCardSaid : Prop := Claim7.holds Tryd.pinned (.plain (OpenSpec.upto roundQuotientsSpec)) roundQuotientsUptoCard

/-- THE SECOND FORM's CARD OF 'flowpipelaw03.RoundBack'. -/
def roundBackUptoCard : Claim7 := { stood := { row := roundBackUptoRow, standIns := [], harness := (true, "4cebaf43500f7ef3b7baf8778f42e659d91cda810e5319202fea2f4938e6ea6d"), looks := false }, kinds := [], alts := [], laidByText := true, laidKinds := [.data], laidTests := true, laidLooks := .later }
def RoundBackUptoCardSaid : Prop := Claim7.holds Tryd.pinned (.plain (OpenSpec.upto roundBackSpec)) roundBackUptoCard
end Rows
end Go.Proofs.YtndbnfeapdkoaaaDoor
