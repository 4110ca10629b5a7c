/-
  DERIVED. GIVEN WITH THE SEED: THE CARDS: each row of YtkkiinbgjjjcoaaDoorRows.lean that lists a variable, with what it lists TIED to the program's text (the seventh form; the later family's looks); each row that meets fmt, with fmt's text TOLD by the authors' own Lean function (tested against real Go, not proved from fmt's source: count such statements apart). THE CARD IS WHAT COUNTS. Prove the row's statement (the work); the ties are given (YtkkiinbgjjjcoaaDoorTie.lean); close each card by the builder's one call (the guide's Derived/Test/ToyasCard.lean, 'card_holds'). Laid BY PROGRAM, IN A SANDBOX (cutbox-door.mjs). By AI agents, Wed Nov 11 2026. No macro, syntax, notation, axiom, sorry.
-/
import Derived.Test.YtkkiinbgjjjcoaaDoorRows
import GoSem.ClaimSeven
namespace Go.Proofs.YtkkiinbgjjjcoaaDoor
namespace Rows

/-- THE TIED CARD OF 'flowpipelaw03.RoundMonotone'. -/
def roundMonotoneCard : Claim7 := { stood := { row := roundMonotoneRow, standIns := [], harness := (true, "693834bcd916927f41cab16bc6ea8ee64311746ba7a4b11ed9b017b37501b94f"), looks := false }, kinds := [], alts := [], laidByText := true, laidKinds := [.data], laidTests := true, laidLooks := .later }
def RoundMonotoneCardSaid : Prop := Claim7.holds Tryd.pinned (.plain (OpenSpec.ofChange roundMonotoneSpec)) roundMonotoneCard

/-- THE TIED CARD OF 'flowpipelaw03.RoundBetween'. -/
def roundBetweenCard : Claim7 := { stood := { row := roundBetweenRow, standIns := [], harness := (true, "693834bcd916927f41cab16bc6ea8ee64311746ba7a4b11ed9b017b37501b94f"), looks := false }, kinds := [], alts := [], laidByText := true, laidKinds := [.data], laidTests := true, laidLooks := .later }
def RoundBetweenCardSaid : Prop := Claim7.holds Tryd.pinned (.plain (OpenSpec.ofChange roundBetweenSpec)) roundBetweenCard

/-- THE TIED CARD OF 'flowpipelaw03.RoundEnds'. -/
def roundEndsCard : Claim7 := { stood := { row := roundEndsRow, standIns := [], harness := (true, "693834bcd916927f41cab16bc6ea8ee64311746ba7a4b11ed9b017b37501b94f"), looks := false }, kinds := [], alts := [], laidByText := true, laidKinds := [.data], laidTests := true, laidLooks := .later }
def RoundEndsCardSaid : Prop := Claim7.holds Tryd.pinned (.plain (OpenSpec.ofChange roundEndsSpec)) roundEndsCard

/-- THE TIED CARD OF 'flowpipelaw03.RoundExact'. -/
def roundExactCard : Claim7 := { stood := { row := roundExactRow, standIns := [], harness := (true, "693834bcd916927f41cab16bc6ea8ee64311746ba7a4b11ed9b017b37501b94f"), looks := false }, kinds := [], alts := [], laidByText := true, laidKinds := [.data], laidTests := true, laidLooks := .later }
def RoundExactCardSaid : Prop := Claim7.holds Tryd.pinned (.plain (OpenSpec.ofChange roundExactSpec)) roundExactCard

/-- THE SECOND FORM's CARD OF 'flowpipelaw03.RoundMonotone'. -/
def roundMonotoneUptoCard : Claim7 := { stood := { row := roundMonotoneUptoRow, standIns := [], harness := (true, "693834bcd916927f41cab16bc6ea8ee64311746ba7a4b11ed9b017b37501b94f"), looks := false }, kinds := [], alts := [], laidByText := true, laidKinds := [.data], laidTests := true, laidLooks := .later }
def RoundMonotoneUptoCardSaid : Prop := Claim7.holds Tryd.pinned (.plain (OpenSpec.upto roundMonotoneSpec)) roundMonotoneUptoCard

/-- THE SECOND FORM's CARD OF 'flowpipelaw03.RoundBetween'. -/
def roundBetweenUptoCard : Claim7 := { stood := { row := roundBetweenUptoRow, standIns := [], harness := (true, "693834bcd916927f41cab16bc6ea8ee64311746ba7a4b11ed9b017b37501b94f"), looks := false }, kinds := [], alts := [], laidByText := true, laidKinds := [.data], laidTests := true, laidLooks := .later }
def RoundBetweenUptoCardSaid : Prop := Claim7.holds Tryd.pinned (.plain (OpenSpec.upto roundBetweenSpec)) roundBetweenUptoCard

/-- THE SECOND FORM's CARD OF 'flowpipelaw03.RoundEnds'. -/
def roundEndsUptoCard : Claim7 := { stood := { row := roundEndsUptoRow, standIns := [], harness := (true, "693834bcd916927f41cab16bc6ea8ee64311746ba7a4b11ed9b017b37501b94f"), looks := false }, kinds := [], alts := [], laidByText := true, laidKinds := [.data], laidTests := true, laidLooks := .later }
def RoundEndsUptoCardSaid : Prop := Claim7.holds Tryd.pinned (.plain (OpenSpec.upto roundEndsSpec)) roundEndsUptoCard

/-- THE SECOND FORM's CARD OF 'flowpipelaw03.RoundExact'. -/
def roundExactUptoCard : Claim7 := { stood := { row := roundExactUptoRow, standIns := [], harness := (true, "693834bcd916927f41cab16bc6ea8ee64311746ba7a4b11ed9b017b37501b94f"), looks := false }, kinds := [], alts := [], laidByText := true, laidKinds := [.data], laidTests := true, laidLooks := .later }
def RoundExactUptoCardSaid : Prop := Claim7.holds Tryd.pinned (.plain (OpenSpec.upto roundExactSpec)) roundExactUptoCard
end Rows
end Go.Proofs.YtkkiinbgjjjcoaaDoor
