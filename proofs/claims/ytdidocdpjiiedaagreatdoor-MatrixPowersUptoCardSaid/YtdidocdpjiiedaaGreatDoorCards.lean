/-
  DERIVED. GIVEN WITH THE SEED: THE CARDS: each row of YtdidocdpjiiedaaGreatDoorRows.lean that lists a variable, with what it lists TIED to the program's text (the seventh form; the later family's looks); each row that meets fmt, with fmt's text TOLD by the authors' own Lean function (tested against real Go, not proved from fmt's source: count such statements apart). THE CARD IS WHAT COUNTS. Prove the row's statement (the work); the ties are given (YtdidocdpjiiedaaGreatDoorTie.lean); close each card by the builder's one call (the guide's Derived/Test/ToyasCard.lean, 'card_holds'). Laid BY PROGRAM, IN A SANDBOX (cutbox-door.mjs). By AI agents, Wed Nov 11 2026. No macro, syntax, notation, axiom, sorry.
-/
import Derived.Test.YtdidocdpjiiedaaGreatDoorRows
import GoSem.ClaimSeven
namespace Go.Proofs.YtdidocdpjiiedaaGreatDoor
namespace Rows

/-- THE TIED CARD OF 'flowpipelaw07.MatrixNorms'. -/
def matrixNormsCard : Claim7 := { stood := { row := matrixNormsRow, standIns := [], harness := (true, "e0da0b751e652d0f1eb45a0bffdeaf0a44a33f4e4893b1b282f9c440db1035fb"), looks := false }, kinds := [], alts := [], laidByText := true, laidKinds := [.data], laidTests := true, laidLooks := .later }
def MatrixNormsCardSaid : Prop := Claim7.holds Tryz.pinned (.plain (OpenSpec.ofChange matrixNormsSpec)) matrixNormsCard

/-- THE TIED CARD OF 'flowpipelaw07.MatrixProducts'. -/
def matrixProductsCard : Claim7 := { stood := { row := matrixProductsRow, standIns := [], harness := (true, "e0da0b751e652d0f1eb45a0bffdeaf0a44a33f4e4893b1b282f9c440db1035fb"), looks := false }, kinds := [], alts := [], laidByText := true, laidKinds := [.data], laidTests := true, laidLooks := .later }
def MatrixProductsCardSaid : Prop := Claim7.holds Tryz.pinned (.plain (OpenSpec.ofChange matrixProductsSpec)) matrixProductsCard

/-- THE TIED CARD OF 'flowpipelaw07.MatrixApplies'. -/
def matrixAppliesCard : Claim7 := { stood := { row := matrixAppliesRow, standIns := [], harness := (true, "e0da0b751e652d0f1eb45a0bffdeaf0a44a33f4e4893b1b282f9c440db1035fb"), looks := false }, kinds := [], alts := [], laidByText := true, laidKinds := [.data], laidTests := true, laidLooks := .later }
def MatrixAppliesCardSaid : Prop := Claim7.holds Tryz.pinned (.plain (OpenSpec.ofChange matrixAppliesSpec)) matrixAppliesCard

/-- THE TIED CARD OF 'flowpipelaw07.MatrixSums'. -/
def matrixSumsCard : Claim7 := { stood := { row := matrixSumsRow, standIns := [], harness := (true, "e0da0b751e652d0f1eb45a0bffdeaf0a44a33f4e4893b1b282f9c440db1035fb"), looks := false }, kinds := [], alts := [], laidByText := true, laidKinds := [.data], laidTests := true, laidLooks := .later }
def MatrixSumsCardSaid : Prop := Claim7.holds Tryz.pinned (.plain (OpenSpec.ofChange matrixSumsSpec)) matrixSumsCard

/-- THE TIED CARD OF 'flowpipelaw07.MatrixSmaller'. -/
def matrixSmallerCard : Claim7 := { stood := { row := matrixSmallerRow, standIns := [], harness := (true, "e0da0b751e652d0f1eb45a0bffdeaf0a44a33f4e4893b1b282f9c440db1035fb"), looks := false }, kinds := [], alts := [], laidByText := true, laidKinds := [.data], laidTests := true, laidLooks := .later }
def MatrixSmallerCardSaid : Prop := Claim7.holds Tryz.pinned (.plain (OpenSpec.ofChange matrixSmallerSpec)) matrixSmallerCard

/-- THE TIED CARD OF 'flowpipelaw07.MatrixContains'. -/
def matrixContainsCard : Claim7 := { stood := { row := matrixContainsRow, standIns := [], harness := (true, "e0da0b751e652d0f1eb45a0bffdeaf0a44a33f4e4893b1b282f9c440db1035fb"), looks := false }, kinds := [], alts := [], laidByText := true, laidKinds := [.data], laidTests := true, laidLooks := .later }
def MatrixContainsCardSaid : Prop := Claim7.holds Tryz.pinned (.plain (OpenSpec.ofChange matrixContainsSpec)) matrixContainsCard

/-- THE TIED CARD OF 'flowpipelaw07.MatrixIdentity'. -/
def matrixIdentityCard : Claim7 := { stood := { row := matrixIdentityRow, standIns := [], harness := (true, "e0da0b751e652d0f1eb45a0bffdeaf0a44a33f4e4893b1b282f9c440db1035fb"), looks := false }, kinds := [], alts := [], laidByText := true, laidKinds := [.data], laidTests := true, laidLooks := .later }
def MatrixIdentityCardSaid : Prop := Claim7.holds Tryz.pinned (.plain (OpenSpec.ofChange matrixIdentitySpec)) matrixIdentityCard

/-- THE TIED CARD OF 'flowpipelaw07.MatrixPowers'. -/
def matrixPowersCard : Claim7 := { stood := { row := matrixPowersRow, standIns := [], harness := (true, "e0da0b751e652d0f1eb45a0bffdeaf0a44a33f4e4893b1b282f9c440db1035fb"), looks := false }, kinds := [], alts := [], laidByText := true, laidKinds := [.data], laidTests := true, laidLooks := .later }
def MatrixPowersCardSaid : Prop := Claim7.holds Tryz.pinned (.plain (OpenSpec.ofChange matrixPowersSpec)) matrixPowersCard

/-- THE SECOND FORM's CARD OF 'flowpipelaw07.MatrixNorms'. -/
def matrixNormsUptoCard : Claim7 := { stood := { row := matrixNormsUptoRow, standIns := [], harness := (true, "e0da0b751e652d0f1eb45a0bffdeaf0a44a33f4e4893b1b282f9c440db1035fb"), looks := false }, kinds := [], alts := [], laidByText := true, laidKinds := [.data], laidTests := true, laidLooks := .later }
def MatrixNormsUptoCardSaid : Prop := Claim7.holds Tryz.pinned (.plain (OpenSpec.upto matrixNormsSpec)) matrixNormsUptoCard

/-- THE SECOND FORM's CARD OF 'flowpipelaw07.MatrixProducts'. -/
def matrixProductsUptoCard : Claim7 := { stood := { row := matrixProductsUptoRow, standIns := [], harness := (true, "e0da0b751e652d0f1eb45a0bffdeaf0a44a33f4e4893b1b282f9c440db1035fb"), looks := false }, kinds := [], alts := [], laidByText := true, laidKinds := [.data], laidTests := true, laidLooks := .later }
def MatrixProductsUptoCardSaid : Prop := Claim7.holds Tryz.pinned (.plain (OpenSpec.upto matrixProductsSpec)) matrixProductsUptoCard

/-- THE SECOND FORM's CARD OF 'flowpipelaw07.MatrixApplies'. -/
def matrixAppliesUptoCard : Claim7 := { stood := { row := matrixAppliesUptoRow, standIns := [], harness := (true, "e0da0b751e652d0f1eb45a0bffdeaf0a44a33f4e4893b1b282f9c440db1035fb"), looks := false }, kinds := [], alts := [], laidByText := true, laidKinds := [.data], laidTests := true, laidLooks := .later }
def MatrixAppliesUptoCardSaid : Prop := Claim7.holds Tryz.pinned (.plain (OpenSpec.upto matrixAppliesSpec)) matrixAppliesUptoCard

/-- THE SECOND FORM's CARD OF 'flowpipelaw07.MatrixSums'. -/
def matrixSumsUptoCard : Claim7 := { stood := { row := matrixSumsUptoRow, standIns := [], harness := (true, "e0da0b751e652d0f1eb45a0bffdeaf0a44a33f4e4893b1b282f9c440db1035fb"), looks := false }, kinds := [], alts := [], laidByText := true, laidKinds := [.data], laidTests := true, laidLooks := .later }
def MatrixSumsUptoCardSaid : Prop := Claim7.holds Tryz.pinned (.plain (OpenSpec.upto matrixSumsSpec)) matrixSumsUptoCard

/-- THE SECOND FORM's CARD OF 'flowpipelaw07.MatrixSmaller'. -/
def matrixSmallerUptoCard : Claim7 := { stood := { row := matrixSmallerUptoRow, standIns := [], harness := (true, "e0da0b751e652d0f1eb45a0bffdeaf0a44a33f4e4893b1b282f9c440db1035fb"), looks := false }, kinds := [], alts := [], laidByText := true, laidKinds := [.data], laidTests := true, laidLooks := .later }
def MatrixSmallerUptoCardSaid : Prop := Claim7.holds Tryz.pinned (.plain (OpenSpec.upto matrixSmallerSpec)) matrixSmallerUptoCard

/-- THE SECOND FORM's CARD OF 'flowpipelaw07.MatrixContains'. -/
def matrixContainsUptoCard : Claim7 := { stood := { row := matrixContainsUptoRow, standIns := [], harness := (true, "e0da0b751e652d0f1eb45a0bffdeaf0a44a33f4e4893b1b282f9c440db1035fb"), looks := false }, kinds := [], alts := [], laidByText := true, laidKinds := [.data], laidTests := true, laidLooks := .later }
def MatrixContainsUptoCardSaid : Prop := Claim7.holds Tryz.pinned (.plain (OpenSpec.upto matrixContainsSpec)) matrixContainsUptoCard

/-- THE SECOND FORM's CARD OF 'flowpipelaw07.MatrixIdentity'. -/
def matrixIdentityUptoCard : Claim7 := { stood := { row := matrixIdentityUptoRow, standIns := [], harness := (true, "e0da0b751e652d0f1eb45a0bffdeaf0a44a33f4e4893b1b282f9c440db1035fb"), looks := false }, kinds := [], alts := [], laidByText := true, laidKinds := [.data], laidTests := true, laidLooks := .later }
def MatrixIdentityUptoCardSaid : Prop := Claim7.holds Tryz.pinned (.plain (OpenSpec.upto matrixIdentitySpec)) matrixIdentityUptoCard

/-- THE SECOND FORM's CARD OF 'flowpipelaw07.MatrixPowers'. -/
def matrixPowersUptoCard : Claim7 := { stood := { row := matrixPowersUptoRow, standIns := [], harness := (true, "e0da0b751e652d0f1eb45a0bffdeaf0a44a33f4e4893b1b282f9c440db1035fb"), looks := false }, kinds := [], alts := [], laidByText := true, laidKinds := [.data], laidTests := true, laidLooks := .later }
def MatrixPowersUptoCardSaid : Prop := Claim7.holds Tryz.pinned (.plain (OpenSpec.upto matrixPowersSpec)) matrixPowersUptoCard
end Rows
end Go.Proofs.YtdidocdpjiiedaaGreatDoor
