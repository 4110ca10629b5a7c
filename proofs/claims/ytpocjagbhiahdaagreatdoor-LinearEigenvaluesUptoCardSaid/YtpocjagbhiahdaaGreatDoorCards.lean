/-
  DERIVED. GIVEN WITH THE SEED: THE CARDS: each row of YtpocjagbhiahdaaGreatDoorRows.lean that lists a variable, with what it lists TIED to the program's text (the seventh form; the later family's looks); each row that meets fmt, with fmt's text TOLD by the authors' own Lean function (tested against real Go, not proved from fmt's source: count such statements apart). THE CARD IS WHAT COUNTS. Prove the row's statement (the work); the ties are given (YtpocjagbhiahdaaGreatDoorTie.lean); close each card by the builder's one call (the guide's Derived/Test/ToyasCard.lean, 'card_holds'). Laid BY PROGRAM, IN A SANDBOX (cutbox-door.mjs). By AI agents, Wed Nov 11 2026. No macro, syntax, notation, axiom, sorry.
-/
import Derived.Test.YtpocjagbhiahdaaGreatDoorRows
import GoSem.ClaimSeven
namespace Go.Proofs.YtpocjagbhiahdaaGreatDoor
namespace Rows

/-- THE TIED CARD OF 'flowpipelaw08.LinearCorrects'. -/
def linearCorrectsCard : Claim7 := { stood := { row := linearCorrectsRow, standIns := [], harness := (true, "38f7dfedd4eb785aa12293b7cae3f15b80ed950bdb017e878187cfa5223d2ceb"), looks := false }, kinds := [], alts := [], laidByText := true, laidKinds := [.data], laidTests := true, laidLooks := .later }
def LinearCorrectsCardSaid : Prop := Claim7.holds Tryz.pinned (.plain (OpenSpec.ofChange linearCorrectsSpec)) linearCorrectsCard

/-- THE TIED CARD OF 'flowpipelaw08.LinearDiscs'. -/
def linearDiscsCard : Claim7 := { stood := { row := linearDiscsRow, standIns := [], harness := (true, "38f7dfedd4eb785aa12293b7cae3f15b80ed950bdb017e878187cfa5223d2ceb"), looks := false }, kinds := [], alts := [], laidByText := true, laidKinds := [.data], laidTests := true, laidLooks := .later }
def LinearDiscsCardSaid : Prop := Claim7.holds Tryz.pinned (.plain (OpenSpec.ofChange linearDiscsSpec)) linearDiscsCard

/-- THE TIED CARD OF 'flowpipelaw08.LinearEigenvalues'. -/
def linearEigenvaluesCard : Claim7 := { stood := { row := linearEigenvaluesRow, standIns := [], harness := (true, "38f7dfedd4eb785aa12293b7cae3f15b80ed950bdb017e878187cfa5223d2ceb"), looks := false }, kinds := [], alts := [], laidByText := true, laidKinds := [.data], laidTests := true, laidLooks := .later }
def LinearEigenvaluesCardSaid : Prop := Claim7.holds Tryz.pinned (.plain (OpenSpec.ofChange linearEigenvaluesSpec)) linearEigenvaluesCard

/-- THE SECOND FORM's CARD OF 'flowpipelaw08.LinearCorrects'. -/
def linearCorrectsUptoCard : Claim7 := { stood := { row := linearCorrectsUptoRow, standIns := [], harness := (true, "38f7dfedd4eb785aa12293b7cae3f15b80ed950bdb017e878187cfa5223d2ceb"), looks := false }, kinds := [], alts := [], laidByText := true, laidKinds := [.data], laidTests := true, laidLooks := .later }
def LinearCorrectsUptoCardSaid : Prop := Claim7.holds Tryz.pinned (.plain (OpenSpec.upto linearCorrectsSpec)) linearCorrectsUptoCard

/-- THE SECOND FORM's CARD OF 'flowpipelaw08.LinearDiscs'. -/
def linearDiscsUptoCard : Claim7 := { stood := { row := linearDiscsUptoRow, standIns := [], harness := (true, "38f7dfedd4eb785aa12293b7cae3f15b80ed950bdb017e878187cfa5223d2ceb"), looks := false }, kinds := [], alts := [], laidByText := true, laidKinds := [.data], laidTests := true, laidLooks := .later }
def LinearDiscsUptoCardSaid : Prop := Claim7.holds Tryz.pinned (.plain (OpenSpec.upto linearDiscsSpec)) linearDiscsUptoCard

/-- THE SECOND FORM's CARD OF 'flowpipelaw08.LinearEigenvalues'. -/
def linearEigenvaluesUptoCard : Claim7 := { stood := { row := linearEigenvaluesUptoRow, standIns := [], harness := (true, "38f7dfedd4eb785aa12293b7cae3f15b80ed950bdb017e878187cfa5223d2ceb"), looks := false }, kinds := [], alts := [], laidByText := true, laidKinds := [.data], laidTests := true, laidLooks := .later }
def LinearEigenvaluesUptoCardSaid : Prop := Claim7.holds Tryz.pinned (.plain (OpenSpec.upto linearEigenvaluesSpec)) linearEigenvaluesUptoCard
end Rows
end Go.Proofs.YtpocjagbhiahdaaGreatDoor
