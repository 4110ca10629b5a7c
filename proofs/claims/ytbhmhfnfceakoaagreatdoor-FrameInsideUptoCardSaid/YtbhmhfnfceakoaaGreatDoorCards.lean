/-
  DERIVED. GIVEN WITH THE SEED: THE CARDS: each row of YtbhmhfnfceakoaaGreatDoorRows.lean that lists a variable, with what it lists TIED to the program's text (the seventh form; the later family's looks); each row that meets fmt, with fmt's text TOLD by the authors' own Lean function (tested against real Go, not proved from fmt's source: count such statements apart). THE CARD IS WHAT COUNTS. Prove the row's statement (the work); the ties are given (YtbhmhfnfceakoaaGreatDoorTie.lean); close each card by the builder's one call (the guide's Derived/Test/ToyasCard.lean, 'card_holds'). Laid BY PROGRAM, IN A SANDBOX (cutbox-door.mjs). By AI agents, Wed Nov 11 2026. No macro, syntax, notation, axiom, sorry.
-/
import Derived.Test.YtbhmhfnfceakoaaGreatDoorRows
import GoSem.ClaimSeven
namespace Go.Proofs.YtbhmhfnfceakoaaGreatDoor
namespace Rows

/-- THE TIED CARD OF 'flowpipelaw31.FrameMoves'. -/
def frameMovesCard : Claim7 := { stood := { row := frameMovesRow, standIns := [], harness := (true, "e6cf718f7b4caee7cd516fa4c055d458cc99bf0aeb8c9437519cd7b2ee6efc54"), looks := false }, kinds := [], alts := [], laidByText := true, laidKinds := [.data], laidTests := true, laidLooks := .later }
def FrameMovesCardSaid : Prop := Claim7.holds Tryz.pinned (.plain (OpenSpec.ofChange frameMovesSpec)) frameMovesCard

/-- THE TIED CARD OF 'flowpipelaw31.FrameNext'. -/
def frameNextCard : Claim7 := { stood := { row := frameNextRow, standIns := [], harness := (true, "e6cf718f7b4caee7cd516fa4c055d458cc99bf0aeb8c9437519cd7b2ee6efc54"), looks := false }, kinds := [], alts := [], laidByText := true, laidKinds := [.data], laidTests := true, laidLooks := .later }
def FrameNextCardSaid : Prop := Claim7.holds Tryz.pinned (.plain (OpenSpec.ofChange frameNextSpec)) frameNextCard

/-- THE TIED CARD OF 'flowpipelaw31.FrameImages'. -/
def frameImagesCard : Claim7 := { stood := { row := frameImagesRow, standIns := [], harness := (true, "e6cf718f7b4caee7cd516fa4c055d458cc99bf0aeb8c9437519cd7b2ee6efc54"), looks := false }, kinds := [], alts := [], laidByText := true, laidKinds := [.data], laidTests := true, laidLooks := .later }
def FrameImagesCardSaid : Prop := Claim7.holds Tryz.pinned (.plain (OpenSpec.ofChange frameImagesSpec)) frameImagesCard

/-- THE TIED CARD OF 'flowpipelaw31.FrameInside'. -/
def frameInsideCard : Claim7 := { stood := { row := frameInsideRow, standIns := [], harness := (true, "e6cf718f7b4caee7cd516fa4c055d458cc99bf0aeb8c9437519cd7b2ee6efc54"), looks := false }, kinds := [], alts := [], laidByText := true, laidKinds := [.data], laidTests := true, laidLooks := .later }
def FrameInsideCardSaid : Prop := Claim7.holds Tryz.pinned (.plain (OpenSpec.ofChange frameInsideSpec)) frameInsideCard

/-- THE SECOND FORM's CARD OF 'flowpipelaw31.FrameMoves'. -/
def frameMovesUptoCard : Claim7 := { stood := { row := frameMovesUptoRow, standIns := [], harness := (true, "e6cf718f7b4caee7cd516fa4c055d458cc99bf0aeb8c9437519cd7b2ee6efc54"), looks := false }, kinds := [], alts := [], laidByText := true, laidKinds := [.data], laidTests := true, laidLooks := .later }
def FrameMovesUptoCardSaid : Prop := Claim7.holds Tryz.pinned (.plain (OpenSpec.upto frameMovesSpec)) frameMovesUptoCard

/-- THE SECOND FORM's CARD OF 'flowpipelaw31.FrameNext'. -/
def frameNextUptoCard : Claim7 := { stood := { row := frameNextUptoRow, standIns := [], harness := (true, "e6cf718f7b4caee7cd516fa4c055d458cc99bf0aeb8c9437519cd7b2ee6efc54"), looks := false }, kinds := [], alts := [], laidByText := true, laidKinds := [.data], laidTests := true, laidLooks := .later }
def FrameNextUptoCardSaid : Prop := Claim7.holds Tryz.pinned (.plain (OpenSpec.upto frameNextSpec)) frameNextUptoCard

/-- THE SECOND FORM's CARD OF 'flowpipelaw31.FrameImages'. -/
def frameImagesUptoCard : Claim7 := { stood := { row := frameImagesUptoRow, standIns := [], harness := (true, "e6cf718f7b4caee7cd516fa4c055d458cc99bf0aeb8c9437519cd7b2ee6efc54"), looks := false }, kinds := [], alts := [], laidByText := true, laidKinds := [.data], laidTests := true, laidLooks := .later }
def FrameImagesUptoCardSaid : Prop := Claim7.holds Tryz.pinned (.plain (OpenSpec.upto frameImagesSpec)) frameImagesUptoCard

/-- THE SECOND FORM's CARD OF 'flowpipelaw31.FrameInside'. -/
def frameInsideUptoCard : Claim7 := { stood := { row := frameInsideUptoRow, standIns := [], harness := (true, "e6cf718f7b4caee7cd516fa4c055d458cc99bf0aeb8c9437519cd7b2ee6efc54"), looks := false }, kinds := [], alts := [], laidByText := true, laidKinds := [.data], laidTests := true, laidLooks := .later }
def FrameInsideUptoCardSaid : Prop := Claim7.holds Tryz.pinned (.plain (OpenSpec.upto frameInsideSpec)) frameInsideUptoCard
end Rows
end Go.Proofs.YtbhmhfnfceakoaaGreatDoor
