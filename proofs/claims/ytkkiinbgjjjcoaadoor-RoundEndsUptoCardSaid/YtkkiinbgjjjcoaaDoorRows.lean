/-
  NARROWER THAN 'FOR EVERY INPUT', by the rows' own cells (each row's printed sentence says how): RoundMonotone: laid · RoundBetween: laid · RoundEnds: laid · RoundExact: laid.
  DERIVED. THE GIVEN ROWS OF THIS SEAT. 4 by the template 'for every input the law returns true; each argument reads behind the call as it read before'; 0 by the template 'total and deterministic' (their statements: YtkkiinbgjjjcoaaDoorTotals.lean).
  GIVEN WITH THE SEED: the statements are not yours to turn. If you find one false, say at which input.
  Laid BY PROGRAM, IN A SANDBOX (cutbox-rows.mjs): the forced cells as the released guide's own fill.sh prints them over the translation 246a1b64160c2db4… (all of the seat's roots in one cut). By AI agents, Wed Nov 11 2026. No macro, syntax, notation, axiom, sorry.
-/
import Derived.Test.YtkkiinbgjjjcoaaDoorChecked
import GoSem.Claim
import GoSem.ClaimJoined
import GoSem.ClaimMapViews
import Derived.JoinedTies
import Derived.KernelRfl
namespace Go.Proofs.YtkkiinbgjjjcoaaDoor
/- THE CELL 'sum', in the pinned program and in every row, IS THE sha256 OF THE DUMP (.gsa) THAT YtkkiinbgjjjcoaaDoorProg.lean LOADS. Nothing in Lean hashes anything: it is a label: what it is worth is what the hold of that sum in a sandbox is worth. -/
noncomputable def Tryd.pinned : Pinned := { name := "ytkkiinbgjjjcoaadoor", sum := "246a1b64160c2db422ac42460f9242e4feb4a5b1c8d7e527c7d47551c1c3e347", checked := Tryd.checked }
namespace Rows
def none {H : Type} : Left H := { results := [], args := [] }

/- WHAT THE LISTED PACKAGE-LEVEL VARIABLES READ AS WHEN THE CALL BEGINS. Each datum BY PROGRAM (the guide's laid-datum.mjs) off the statement by which the dump's own 'gosem.cut.vars' lays the variable. In a bare row this is a premise. The card (YtkkiinbgjjjcoaaDoorCards.lean) ties it to the program's text. -/
def laid_math_bits_deBruijn32tab {H : Type} : DataW H := .agg [.lit (.int .u8 0), .lit (.int .u8 1), .lit (.int .u8 28), .lit (.int .u8 2), .lit (.int .u8 29), .lit (.int .u8 14), .lit (.int .u8 24), .lit (.int .u8 3), .lit (.int .u8 30), .lit (.int .u8 22), .lit (.int .u8 20), .lit (.int .u8 15), .lit (.int .u8 25), .lit (.int .u8 17), .lit (.int .u8 4), .lit (.int .u8 8), .lit (.int .u8 31), .lit (.int .u8 27), .lit (.int .u8 13), .lit (.int .u8 23), .lit (.int .u8 21), .lit (.int .u8 19), .lit (.int .u8 16), .lit (.int .u8 7), .lit (.int .u8 26), .lit (.int .u8 12), .lit (.int .u8 18), .lit (.int .u8 6), .lit (.int .u8 11), .lit (.int .u8 5), .lit (.int .u8 10), .lit (.int .u8 9)]

/-- 'flowpipelaw03.RoundMonotone': WHATEVER THE INPUT: true; the input reads as it did. -/
def roundMonotoneSpec : ChangeSpec := { name := "roundMonotone", fn := fun _ => fun
  | [d1, d2, d3, d4] => { results := [.lit (.bool true)], args := [d1, d2, d3, d4] }
  | _ => none }
def roundMonotoneRow : OpenClaim := { program := "ytkkiinbgjjjcoaadoor", sum := "246a1b64160c2db422ac42460f9242e4feb4a5b1c8d7e527c7d47551c1c3e347", func := "flowpipe/flowpipelaw03.RoundMonotone", spec := "roundMonotone", unfollowed := true, recurses := true, named := ["math/bits.overflowError", "math/bits.deBruijn32tab"], apart := false, laid := [("math/bits.deBruijn32tab", laid_math_bits_deBruijn32tab)] }
def RoundMonotoneSaid : Prop := roundMonotoneRow.holds Tryd.pinned (OpenSpec.ofChange roundMonotoneSpec)

/-- ITS FALSE NEIGHBOUR: 'it returns false'. Refute it at one input. -/
def roundMonotoneWrong : ChangeSpec := { name := "roundMonotone", fn := fun _ => fun
  | [d1, d2, d3, d4] => { results := [.lit (.bool false)], args := [d1, d2, d3, d4] }
  | _ => none }
def RoundMonotoneWrongFalsely : Prop := roundMonotoneRow.holds Tryd.pinned (OpenSpec.ofChange roundMonotoneWrong)

/-- 'flowpipelaw03.RoundBetween': WHATEVER THE INPUT: true; the input reads as it did. -/
def roundBetweenSpec : ChangeSpec := { name := "roundBetween", fn := fun _ => fun
  | [d1, d2] => { results := [.lit (.bool true)], args := [d1, d2] }
  | _ => none }
def roundBetweenRow : OpenClaim := { program := "ytkkiinbgjjjcoaadoor", sum := "246a1b64160c2db422ac42460f9242e4feb4a5b1c8d7e527c7d47551c1c3e347", func := "flowpipe/flowpipelaw03.RoundBetween", spec := "roundBetween", unfollowed := true, recurses := true, named := ["math/bits.overflowError", "math/bits.deBruijn32tab"], apart := false, laid := [("math/bits.deBruijn32tab", laid_math_bits_deBruijn32tab)] }
def RoundBetweenSaid : Prop := roundBetweenRow.holds Tryd.pinned (OpenSpec.ofChange roundBetweenSpec)

/-- ITS FALSE NEIGHBOUR: 'it returns false'. Refute it at one input. -/
def roundBetweenWrong : ChangeSpec := { name := "roundBetween", fn := fun _ => fun
  | [d1, d2] => { results := [.lit (.bool false)], args := [d1, d2] }
  | _ => none }
def RoundBetweenWrongFalsely : Prop := roundBetweenRow.holds Tryd.pinned (OpenSpec.ofChange roundBetweenWrong)

/-- 'flowpipelaw03.RoundEnds': WHATEVER THE INPUT: true; the input reads as it did. -/
def roundEndsSpec : ChangeSpec := { name := "roundEnds", fn := fun _ => fun
  | [d1, d2, d3] => { results := [.lit (.bool true)], args := [d1, d2, d3] }
  | _ => none }
def roundEndsRow : OpenClaim := { program := "ytkkiinbgjjjcoaadoor", sum := "246a1b64160c2db422ac42460f9242e4feb4a5b1c8d7e527c7d47551c1c3e347", func := "flowpipe/flowpipelaw03.RoundEnds", spec := "roundEnds", unfollowed := true, recurses := true, named := ["math/bits.overflowError", "math/bits.deBruijn32tab"], apart := false, laid := [("math/bits.deBruijn32tab", laid_math_bits_deBruijn32tab)] }
def RoundEndsSaid : Prop := roundEndsRow.holds Tryd.pinned (OpenSpec.ofChange roundEndsSpec)

/-- ITS FALSE NEIGHBOUR: 'it returns false'. Refute it at one input. -/
def roundEndsWrong : ChangeSpec := { name := "roundEnds", fn := fun _ => fun
  | [d1, d2, d3] => { results := [.lit (.bool false)], args := [d1, d2, d3] }
  | _ => none }
def RoundEndsWrongFalsely : Prop := roundEndsRow.holds Tryd.pinned (OpenSpec.ofChange roundEndsWrong)

/-- 'flowpipelaw03.RoundExact': WHATEVER THE INPUT: true; the input reads as it did. -/
def roundExactSpec : ChangeSpec := { name := "roundExact", fn := fun _ => fun
  | [d1, d2, d3] => { results := [.lit (.bool true)], args := [d1, d2, d3] }
  | _ => none }
def roundExactRow : OpenClaim := { program := "ytkkiinbgjjjcoaadoor", sum := "246a1b64160c2db422ac42460f9242e4feb4a5b1c8d7e527c7d47551c1c3e347", func := "flowpipe/flowpipelaw03.RoundExact", spec := "roundExact", unfollowed := true, recurses := true, named := ["math/bits.overflowError", "math/bits.deBruijn32tab"], apart := false, laid := [("math/bits.deBruijn32tab", laid_math_bits_deBruijn32tab)] }
def RoundExactSaid : Prop := roundExactRow.holds Tryd.pinned (OpenSpec.ofChange roundExactSpec)

/-- ITS FALSE NEIGHBOUR: 'it returns false'. Refute it at one input. -/
def roundExactWrong : ChangeSpec := { name := "roundExact", fn := fun _ => fun
  | [d1, d2, d3] => { results := [.lit (.bool false)], args := [d1, d2, d3] }
  | _ => none }
def RoundExactWrongFalsely : Prop := roundExactRow.holds Tryd.pinned (OpenSpec.ofChange roundExactWrong)

/- THE SECOND FORM. 'bulk': how many values and letters a reading holds, each counted each time it is reached (what is shared counts as often as it is met; a slice's spare places count too). A statement '..UptoSaid' is the law's where the arguments, and the package variables that the reading takes, are together of bulk at most 1048576: NARROWER than '..Said'. Prove '..Said' where nothing that the law and all that it calls make is longer than what came in: it says more and counts as full. Else prove '..UptoSaid'. A law counts once. -/
mutual
def uptoBulk {H : Type} : DataW H → Nat
  | .lit (.string bytes) => bytes.length + 1
  | .lit _ => 1
  | .nil => 1
  | .ptr d => uptoBulk d + 1
  | .slice elems spare => uptoBulkAll elems + uptoBulkAll spare + 1
  | .agg parts => uptoBulkAll parts + 1
  | .iface _ d => uptoBulk d + 1
  | .map entries => uptoBulkEntries entries + 1
  | .held _ => 1
def uptoBulkAll {H : Type} : List (DataW H) → Nat
  | [] => 0
  | d :: r => uptoBulk d + uptoBulkAll r
def uptoBulkEntries {H : Type} : List (Lit × DataW H) → Nat
  | [] => 0
  | x :: r => uptoBulkEntry x + uptoBulkEntries r
def uptoBulkEntry {H : Type} : Lit × DataW H → Nat
  | (.string bytes, d) => bytes.length + uptoBulk d + 1
  | (_, d) => uptoBulk d + 1
 end
def uptoSmall : (H : Type) → List (DataW H) → Bool := fun _ ds => decide (uptoBulkAll ds ≤ 1048576)
def OpenSpec.upto (s : _root_.Go.ChangeSpec) : _root_.Go.OpenSpec := { _root_.Go.OpenSpec.ofChange s with cond := some uptoSmall }

/-- 'flowpipelaw03.RoundMonotone', WHERE WHAT IT READS IS OF BULK AT MOST 1048576: true; the input reads as it did. -/
def roundMonotoneUptoRow : OpenClaim := { program := "ytkkiinbgjjjcoaadoor", sum := "246a1b64160c2db422ac42460f9242e4feb4a5b1c8d7e527c7d47551c1c3e347", func := "flowpipe/flowpipelaw03.RoundMonotone", spec := "roundMonotone", unfollowed := true, recurses := true, named := ["math/bits.overflowError", "math/bits.deBruijn32tab"], apart := false, laid := [("math/bits.deBruijn32tab", laid_math_bits_deBruijn32tab)], narrowed := true }
def RoundMonotoneUptoSaid : Prop := roundMonotoneUptoRow.holds Tryd.pinned (OpenSpec.upto roundMonotoneSpec)

/-- 'flowpipelaw03.RoundBetween', WHERE WHAT IT READS IS OF BULK AT MOST 1048576: true; the input reads as it did. -/
def roundBetweenUptoRow : OpenClaim := { program := "ytkkiinbgjjjcoaadoor", sum := "246a1b64160c2db422ac42460f9242e4feb4a5b1c8d7e527c7d47551c1c3e347", func := "flowpipe/flowpipelaw03.RoundBetween", spec := "roundBetween", unfollowed := true, recurses := true, named := ["math/bits.overflowError", "math/bits.deBruijn32tab"], apart := false, laid := [("math/bits.deBruijn32tab", laid_math_bits_deBruijn32tab)], narrowed := true }
def RoundBetweenUptoSaid : Prop := roundBetweenUptoRow.holds Tryd.pinned (OpenSpec.upto roundBetweenSpec)

/-- 'flowpipelaw03.RoundEnds', WHERE WHAT IT READS IS OF BULK AT MOST 1048576: true; the input reads as it did. -/
def roundEndsUptoRow : OpenClaim := { program := "ytkkiinbgjjjcoaadoor", sum := "246a1b64160c2db422ac42460f9242e4feb4a5b1c8d7e527c7d47551c1c3e347", func := "flowpipe/flowpipelaw03.RoundEnds", spec := "roundEnds", unfollowed := true, recurses := true, named := ["math/bits.overflowError", "math/bits.deBruijn32tab"], apart := false, laid := [("math/bits.deBruijn32tab", laid_math_bits_deBruijn32tab)], narrowed := true }
def RoundEndsUptoSaid : Prop := roundEndsUptoRow.holds Tryd.pinned (OpenSpec.upto roundEndsSpec)

/-- 'flowpipelaw03.RoundExact', WHERE WHAT IT READS IS OF BULK AT MOST 1048576: true; the input reads as it did. -/
def roundExactUptoRow : OpenClaim := { program := "ytkkiinbgjjjcoaadoor", sum := "246a1b64160c2db422ac42460f9242e4feb4a5b1c8d7e527c7d47551c1c3e347", func := "flowpipe/flowpipelaw03.RoundExact", spec := "roundExact", unfollowed := true, recurses := true, named := ["math/bits.overflowError", "math/bits.deBruijn32tab"], apart := false, laid := [("math/bits.deBruijn32tab", laid_math_bits_deBruijn32tab)], narrowed := true }
def RoundExactUptoSaid : Prop := roundExactUptoRow.holds Tryd.pinned (OpenSpec.upto roundExactSpec)

end Rows
end Go.Proofs.YtkkiinbgjjjcoaaDoor
