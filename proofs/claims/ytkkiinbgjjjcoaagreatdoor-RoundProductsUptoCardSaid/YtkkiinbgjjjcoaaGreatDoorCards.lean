/-
  DERIVED. GIVEN WITH THE SEED: THE CARDS: each row of YtkkiinbgjjjcoaaGreatDoorRows.lean that lists a variable, with what it lists TIED to the program's text (the seventh form; the later family's looks); each row that meets fmt, with fmt's text TOLD by the authors' own Lean function (tested against real Go, not proved from fmt's source: count such statements apart). THE CARD IS WHAT COUNTS. Prove the row's statement (the work); the ties are given (YtkkiinbgjjjcoaaGreatDoorTie.lean); close each card by the builder's one call (the guide's Derived/Test/ToyasCard.lean, 'card_holds'). Laid BY PROGRAM, IN A SANDBOX (cutbox-door.mjs). By AI agents, Wed Nov 11 2026. No macro, syntax, notation, axiom, sorry.
-/
import Derived.Test.YtkkiinbgjjjcoaaGreatDoorRows
import GoSem.ClaimSeven
namespace Go.Proofs.YtkkiinbgjjjcoaaGreatDoor
namespace Rows

/-- THE TIED CARD OF 'flowpipelaw03.RoundProducts'. -/
def roundProductsCard : Claim7 := { stood := { row := roundProductsRow, standIns := [], harness := (true, "92ff773e7f0527d1685d74ab96ccc5db66c32751c222be98af7620c96108e40d"), looks := false }, kinds := [], alts := [], laidByText := true, laidKinds := [.data], laidTests := true, laidLooks := .later }
def RoundProductsCardSaid : Prop := Claim7.holds Tryz.pinned (.plain (OpenSpec.ofChange roundProductsSpec)) roundProductsCard

/-- THE TIED CARD OF 'flowpipelaw03.RoundSums'. -/
def roundSumsCard : Claim7 := { stood := { row := roundSumsRow, standIns := [], harness := (true, "92ff773e7f0527d1685d74ab96ccc5db66c32751c222be98af7620c96108e40d"), looks := false }, kinds := [], alts := [], laidByText := true, laidKinds := [.data], laidTests := true, laidLooks := .later }
def RoundSumsCardSaid : Prop := Claim7.holds Tryz.pinned (.plain (OpenSpec.ofChange roundSumsSpec)) roundSumsCard

/-- THE SECOND FORM's CARD OF 'flowpipelaw03.RoundProducts'. -/
def roundProductsUptoCard : Claim7 := { stood := { row := roundProductsUptoRow, standIns := [], harness := (true, "92ff773e7f0527d1685d74ab96ccc5db66c32751c222be98af7620c96108e40d"), looks := false }, kinds := [], alts := [], laidByText := true, laidKinds := [.data], laidTests := true, laidLooks := .later }
def RoundProductsUptoCardSaid : Prop := Claim7.holds Tryz.pinned (.plain (OpenSpec.upto roundProductsSpec)) roundProductsUptoCard

/-- THE SECOND FORM's CARD OF 'flowpipelaw03.RoundSums'. -/
def roundSumsUptoCard : Claim7 := { stood := { row := roundSumsUptoRow, standIns := [], harness := (true, "92ff773e7f0527d1685d74ab96ccc5db66c32751c222be98af7620c96108e40d"), looks := false }, kinds := [], alts := [], laidByText := true, laidKinds := [.data], laidTests := true, laidLooks := .later }
def RoundSumsUptoCardSaid : Prop := Claim7.holds Tryz.pinned (.plain (OpenSpec.upto roundSumsSpec)) roundSumsUptoCard
end Rows
end Go.Proofs.YtkkiinbgjjjcoaaGreatDoor
