/-
  DERIVED. GIVEN WITH THE SEED: THE CARDS: each row of YtkohlmlmoapedaaGreatDoorRows.lean that lists a variable, with what it lists TIED to the program's text (the seventh form; the later family's looks); each row that meets fmt, with fmt's text TOLD by the authors' own Lean function (tested against real Go, not proved from fmt's source: count such statements apart). THE CARD IS WHAT COUNTS. Prove the row's statement (the work); the ties are given (YtkohlmlmoapedaaGreatDoorTie.lean); close each card by the builder's one call (the guide's Derived/Test/ToyasCard.lean, 'card_holds'). Laid BY PROGRAM, IN A SANDBOX (cutbox-door.mjs). By AI agents, Wed Nov 11 2026. No macro, syntax, notation, axiom, sorry.
-/
import Derived.Test.YtkohlmlmoapedaaGreatDoorRows
import GoSem.ClaimSeven
namespace Go.Proofs.YtkohlmlmoapedaaGreatDoor
namespace Rows

/-- THE TIED CARD OF 'flowpipelaw06.BoxGrows'. -/
def boxGrowsCard : Claim7 := { stood := { row := boxGrowsRow, standIns := [], harness := (true, "a44cbdad8e4f35a6848b6132dfc3712a7d51f867858c09479831074c78eda73b"), looks := false }, kinds := [], alts := [], laidByText := true, laidKinds := [.data], laidTests := true, laidLooks := .later }
def BoxGrowsCardSaid : Prop := Claim7.holds Tryz.pinned (.plain (OpenSpec.ofChange boxGrowsSpec)) boxGrowsCard

/-- THE SECOND FORM's CARD OF 'flowpipelaw06.BoxGrows'. -/
def boxGrowsUptoCard : Claim7 := { stood := { row := boxGrowsUptoRow, standIns := [], harness := (true, "a44cbdad8e4f35a6848b6132dfc3712a7d51f867858c09479831074c78eda73b"), looks := false }, kinds := [], alts := [], laidByText := true, laidKinds := [.data], laidTests := true, laidLooks := .later }
def BoxGrowsUptoCardSaid : Prop := Claim7.holds Tryz.pinned (.plain (OpenSpec.upto boxGrowsSpec)) boxGrowsUptoCard
end Rows
end Go.Proofs.YtkohlmlmoapedaaGreatDoor
