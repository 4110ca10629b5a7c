/-
  DERIVED. GIVEN WITH THE SEED: THE CARDS: each row of YtdlpiblgkpgplaaGreatDoorRows.lean that lists a variable, with what it lists TIED to the program's text (the seventh form; the later family's looks); each row that meets fmt, with fmt's text TOLD by the authors' own Lean function (tested against real Go, not proved from fmt's source: count such statements apart). THE CARD IS WHAT COUNTS. Prove the row's statement (the work); the ties are given (YtdlpiblgkpgplaaGreatDoorTie.lean); close each card by the builder's one call (the guide's Derived/Test/ToyasCard.lean, 'card_holds'). Laid BY PROGRAM, IN A SANDBOX (cutbox-door.mjs). By AI agents, Wed Nov 11 2026. No macro, syntax, notation, axiom, sorry.
-/
import Derived.Test.YtdlpiblgkpgplaaGreatDoorRows
import GoSem.ClaimSeven
namespace Go.Proofs.YtdlpiblgkpgplaaGreatDoor
namespace Rows

/-- THE TIED CARD OF 'flowpipelaw31.FrameValid'. -/
def frameValidCard : Claim7 := { stood := { row := frameValidRow, standIns := [], harness := (true, "74aed46f5d795da7017f9da099b76372265a9761cd85f6e7fdc0f26fc451eb35"), looks := false }, kinds := [], alts := [], laidByText := true, laidKinds := [.data], laidTests := true, laidLooks := .later }
def FrameValidCardSaid : Prop := Claim7.holds Tryz.pinned (.plain (OpenSpec.ofChange frameValidSpec)) frameValidCard

/-- THE TIED CARD OF 'flowpipelaw31.FrameContains'. -/
def frameContainsCard : Claim7 := { stood := { row := frameContainsRow, standIns := [], harness := (true, "74aed46f5d795da7017f9da099b76372265a9761cd85f6e7fdc0f26fc451eb35"), looks := false }, kinds := [], alts := [], laidByText := true, laidKinds := [.data], laidTests := true, laidLooks := .later }
def FrameContainsCardSaid : Prop := Claim7.holds Tryz.pinned (.plain (OpenSpec.ofChange frameContainsSpec)) frameContainsCard

/-- THE TIED CARD OF 'flowpipelaw31.FrameOf'. -/
def frameOfCard : Claim7 := { stood := { row := frameOfRow, standIns := [], harness := (true, "74aed46f5d795da7017f9da099b76372265a9761cd85f6e7fdc0f26fc451eb35"), looks := false }, kinds := [], alts := [], laidByText := true, laidKinds := [.data], laidTests := true, laidLooks := .later }
def FrameOfCardSaid : Prop := Claim7.holds Tryz.pinned (.plain (OpenSpec.ofChange frameOfSpec)) frameOfCard

/-- THE SECOND FORM's CARD OF 'flowpipelaw31.FrameValid'. -/
def frameValidUptoCard : Claim7 := { stood := { row := frameValidUptoRow, standIns := [], harness := (true, "74aed46f5d795da7017f9da099b76372265a9761cd85f6e7fdc0f26fc451eb35"), looks := false }, kinds := [], alts := [], laidByText := true, laidKinds := [.data], laidTests := true, laidLooks := .later }
def FrameValidUptoCardSaid : Prop := Claim7.holds Tryz.pinned (.plain (OpenSpec.upto frameValidSpec)) frameValidUptoCard

/-- THE SECOND FORM's CARD OF 'flowpipelaw31.FrameContains'. -/
def frameContainsUptoCard : Claim7 := { stood := { row := frameContainsUptoRow, standIns := [], harness := (true, "74aed46f5d795da7017f9da099b76372265a9761cd85f6e7fdc0f26fc451eb35"), looks := false }, kinds := [], alts := [], laidByText := true, laidKinds := [.data], laidTests := true, laidLooks := .later }
def FrameContainsUptoCardSaid : Prop := Claim7.holds Tryz.pinned (.plain (OpenSpec.upto frameContainsSpec)) frameContainsUptoCard

/-- THE SECOND FORM's CARD OF 'flowpipelaw31.FrameOf'. -/
def frameOfUptoCard : Claim7 := { stood := { row := frameOfUptoRow, standIns := [], harness := (true, "74aed46f5d795da7017f9da099b76372265a9761cd85f6e7fdc0f26fc451eb35"), looks := false }, kinds := [], alts := [], laidByText := true, laidKinds := [.data], laidTests := true, laidLooks := .later }
def FrameOfUptoCardSaid : Prop := Claim7.holds Tryz.pinned (.plain (OpenSpec.upto frameOfSpec)) frameOfUptoCard
end Rows
end Go.Proofs.YtdlpiblgkpgplaaGreatDoor
