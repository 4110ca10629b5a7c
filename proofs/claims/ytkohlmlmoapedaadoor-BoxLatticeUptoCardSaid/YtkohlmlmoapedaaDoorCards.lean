/-
  DERIVED. GIVEN WITH THE SEED: THE CARDS: each row of YtkohlmlmoapedaaDoorRows.lean that lists a variable, with what it lists TIED to the program's text (the seventh form; the later family's looks); each row that meets fmt, with fmt's text TOLD by the authors' own Lean function (tested against real Go, not proved from fmt's source: count such statements apart). THE CARD IS WHAT COUNTS. Prove the row's statement (the work); the ties are given (YtkohlmlmoapedaaDoorTie.lean); close each card by the builder's one call (the guide's Derived/Test/ToyasCard.lean, 'card_holds'). Laid BY PROGRAM, IN A SANDBOX (cutbox-door.mjs). By AI agents, Wed Nov 11 2026. No macro, syntax, notation, axiom, sorry.
-/
import Derived.Test.YtkohlmlmoapedaaDoorRows
import GoSem.ClaimSeven
namespace Go.Proofs.YtkohlmlmoapedaaDoor
namespace Rows

/-- THE TIED CARD OF 'flowpipelaw06.BoxLattice'. -/
def boxLatticeCard : Claim7 := { stood := { row := boxLatticeRow, standIns := [], harness := (true, "6b1b8400b533aa55e51eefba84ccfbeca90d1ce522f7082d3933ac8327a4bfe7"), looks := false }, kinds := [], alts := [], laidByText := true, laidKinds := [.data], laidTests := true, laidLooks := .later }
def BoxLatticeCardSaid : Prop := Claim7.holds Tryd.pinned (.plain (OpenSpec.ofChange boxLatticeSpec)) boxLatticeCard

/-- THE TIED CARD OF 'flowpipelaw06.BoxPoints'. -/
def boxPointsCard : Claim7 := { stood := { row := boxPointsRow, standIns := [], harness := (true, "6b1b8400b533aa55e51eefba84ccfbeca90d1ce522f7082d3933ac8327a4bfe7"), looks := false }, kinds := [], alts := [], laidByText := true, laidKinds := [.data], laidTests := true, laidLooks := .later }
def BoxPointsCardSaid : Prop := Claim7.holds Tryd.pinned (.plain (OpenSpec.ofChange boxPointsSpec)) boxPointsCard

/-- THE SECOND FORM's CARD OF 'flowpipelaw06.BoxLattice'. -/
def boxLatticeUptoCard : Claim7 := { stood := { row := boxLatticeUptoRow, standIns := [], harness := (true, "6b1b8400b533aa55e51eefba84ccfbeca90d1ce522f7082d3933ac8327a4bfe7"), looks := false }, kinds := [], alts := [], laidByText := true, laidKinds := [.data], laidTests := true, laidLooks := .later }
def BoxLatticeUptoCardSaid : Prop := Claim7.holds Tryd.pinned (.plain (OpenSpec.upto boxLatticeSpec)) boxLatticeUptoCard

/-- THE SECOND FORM's CARD OF 'flowpipelaw06.BoxPoints'. -/
def boxPointsUptoCard : Claim7 := { stood := { row := boxPointsUptoRow, standIns := [], harness := (true, "6b1b8400b533aa55e51eefba84ccfbeca90d1ce522f7082d3933ac8327a4bfe7"), looks := false }, kinds := [], alts := [], laidByText := true, laidKinds := [.data], laidTests := true, laidLooks := .later }
def BoxPointsUptoCardSaid : Prop := Claim7.holds Tryd.pinned (.plain (OpenSpec.upto boxPointsSpec)) boxPointsUptoCard
end Rows
end Go.Proofs.YtkohlmlmoapedaaDoor
