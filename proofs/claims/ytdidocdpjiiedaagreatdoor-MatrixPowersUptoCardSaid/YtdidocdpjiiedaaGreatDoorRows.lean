/-
  NARROWER THAN 'FOR EVERY INPUT', by the rows' own cells (each row's printed sentence says how): MatrixNorms: laid · MatrixProducts: laid · MatrixApplies: laid · MatrixSums: laid · MatrixSmaller: laid · MatrixContains: laid · MatrixIdentity: laid · MatrixPowers: laid.
  DERIVED. THE GIVEN ROWS OF THIS SEAT. 8 by the template 'for every input the law returns true; each argument reads behind the call as it read before'; 0 by the template 'total and deterministic' (their statements: YtdidocdpjiiedaaGreatDoorTotals.lean).
  GIVEN WITH THE SEED: the statements are not yours to turn. If you find one false, say at which input.
  Laid BY PROGRAM, IN A SANDBOX (cutbox-rows.mjs): the forced cells as the released guide's own fill.sh prints them over the translation c4c066af2af1aa44… (all of the seat's roots in one cut). By AI agents, Wed Nov 11 2026. No macro, syntax, notation, axiom, sorry.
-/
import Derived.Test.YtdidocdpjiiedaaGreatDoorChecked
import GoSem.Claim
import GoSem.ClaimJoined
import GoSem.ClaimMapViews
import Derived.JoinedTies
import Derived.KernelRfl
namespace Go.Proofs.YtdidocdpjiiedaaGreatDoor
/- THE CELL 'sum', in the pinned program and in every row, IS THE sha256 OF THE DUMP (.gsa) THAT YtdidocdpjiiedaaGreatDoorProg.lean LOADS. Nothing in Lean hashes anything: it is a label: what it is worth is what the hold of that sum in a sandbox is worth. -/
noncomputable def Tryz.pinned : Pinned := { name := "ytdidocdpjiiedaagreatdoor", sum := "c4c066af2af1aa4480b51d856db16329395d5d6d1356dbb5af88609e150923de", checked := Tryz.checked }
namespace Rows
def none {H : Type} : Left H := { results := [], args := [] }

/- WHAT THE LISTED PACKAGE-LEVEL VARIABLES READ AS WHEN THE CALL BEGINS. Each datum BY PROGRAM (the guide's laid-datum.mjs) off the statement by which the dump's own 'gosem.cut.vars' lays the variable. In a bare row this is a premise. The card (YtdidocdpjiiedaaGreatDoorCards.lean) ties it to the program's text. -/
def laid_math_bits_deBruijn32tab {H : Type} : DataW H := .agg [.lit (.int .u8 0), .lit (.int .u8 1), .lit (.int .u8 28), .lit (.int .u8 2), .lit (.int .u8 29), .lit (.int .u8 14), .lit (.int .u8 24), .lit (.int .u8 3), .lit (.int .u8 30), .lit (.int .u8 22), .lit (.int .u8 20), .lit (.int .u8 15), .lit (.int .u8 25), .lit (.int .u8 17), .lit (.int .u8 4), .lit (.int .u8 8), .lit (.int .u8 31), .lit (.int .u8 27), .lit (.int .u8 13), .lit (.int .u8 23), .lit (.int .u8 21), .lit (.int .u8 19), .lit (.int .u8 16), .lit (.int .u8 7), .lit (.int .u8 26), .lit (.int .u8 12), .lit (.int .u8 18), .lit (.int .u8 6), .lit (.int .u8 11), .lit (.int .u8 5), .lit (.int .u8 10), .lit (.int .u8 9)]

/-- 'flowpipelaw07.MatrixNorms': WHATEVER THE INPUT: true; the input reads as it did. -/
def matrixNormsSpec : ChangeSpec := { name := "matrixNorms", fn := fun _ => fun
  | [d1, d2] => { results := [.lit (.bool true)], args := [d1, d2] }
  | _ => none }
def matrixNormsRow : OpenClaim := { program := "ytdidocdpjiiedaagreatdoor", sum := "c4c066af2af1aa4480b51d856db16329395d5d6d1356dbb5af88609e150923de", func := "flowpipe/flowpipelaw07.MatrixNorms", spec := "matrixNorms", unfollowed := true, recurses := true, named := ["math/bits.deBruijn32tab"], apart := false, laid := [("math/bits.deBruijn32tab", laid_math_bits_deBruijn32tab)] }
def MatrixNormsSaid : Prop := matrixNormsRow.holds Tryz.pinned (OpenSpec.ofChange matrixNormsSpec)

/-- ITS FALSE NEIGHBOUR: 'it returns false'. Refute it at one input. -/
def matrixNormsWrong : ChangeSpec := { name := "matrixNorms", fn := fun _ => fun
  | [d1, d2] => { results := [.lit (.bool false)], args := [d1, d2] }
  | _ => none }
def MatrixNormsWrongFalsely : Prop := matrixNormsRow.holds Tryz.pinned (OpenSpec.ofChange matrixNormsWrong)

/-- 'flowpipelaw07.MatrixProducts': WHATEVER THE INPUT: true; the input reads as it did. -/
def matrixProductsSpec : ChangeSpec := { name := "matrixProducts", fn := fun _ => fun
  | [d1, d2, d3] => { results := [.lit (.bool true)], args := [d1, d2, d3] }
  | _ => none }
def matrixProductsRow : OpenClaim := { program := "ytdidocdpjiiedaagreatdoor", sum := "c4c066af2af1aa4480b51d856db16329395d5d6d1356dbb5af88609e150923de", func := "flowpipe/flowpipelaw07.MatrixProducts", spec := "matrixProducts", unfollowed := true, recurses := true, named := ["math/bits.deBruijn32tab"], apart := false, laid := [("math/bits.deBruijn32tab", laid_math_bits_deBruijn32tab)] }
def MatrixProductsSaid : Prop := matrixProductsRow.holds Tryz.pinned (OpenSpec.ofChange matrixProductsSpec)

/-- ITS FALSE NEIGHBOUR: 'it returns false'. Refute it at one input. -/
def matrixProductsWrong : ChangeSpec := { name := "matrixProducts", fn := fun _ => fun
  | [d1, d2, d3] => { results := [.lit (.bool false)], args := [d1, d2, d3] }
  | _ => none }
def MatrixProductsWrongFalsely : Prop := matrixProductsRow.holds Tryz.pinned (OpenSpec.ofChange matrixProductsWrong)

/-- 'flowpipelaw07.MatrixApplies': WHATEVER THE INPUT: true; the input reads as it did. -/
def matrixAppliesSpec : ChangeSpec := { name := "matrixApplies", fn := fun _ => fun
  | [d1, d2, d3] => { results := [.lit (.bool true)], args := [d1, d2, d3] }
  | _ => none }
def matrixAppliesRow : OpenClaim := { program := "ytdidocdpjiiedaagreatdoor", sum := "c4c066af2af1aa4480b51d856db16329395d5d6d1356dbb5af88609e150923de", func := "flowpipe/flowpipelaw07.MatrixApplies", spec := "matrixApplies", unfollowed := true, recurses := true, named := ["math/bits.deBruijn32tab"], apart := false, laid := [("math/bits.deBruijn32tab", laid_math_bits_deBruijn32tab)] }
def MatrixAppliesSaid : Prop := matrixAppliesRow.holds Tryz.pinned (OpenSpec.ofChange matrixAppliesSpec)

/-- ITS FALSE NEIGHBOUR: 'it returns false'. Refute it at one input. -/
def matrixAppliesWrong : ChangeSpec := { name := "matrixApplies", fn := fun _ => fun
  | [d1, d2, d3] => { results := [.lit (.bool false)], args := [d1, d2, d3] }
  | _ => none }
def MatrixAppliesWrongFalsely : Prop := matrixAppliesRow.holds Tryz.pinned (OpenSpec.ofChange matrixAppliesWrong)

/-- 'flowpipelaw07.MatrixSums': WHATEVER THE INPUT: true; the input reads as it did. -/
def matrixSumsSpec : ChangeSpec := { name := "matrixSums", fn := fun _ => fun
  | [d1, d2, d3] => { results := [.lit (.bool true)], args := [d1, d2, d3] }
  | _ => none }
def matrixSumsRow : OpenClaim := { program := "ytdidocdpjiiedaagreatdoor", sum := "c4c066af2af1aa4480b51d856db16329395d5d6d1356dbb5af88609e150923de", func := "flowpipe/flowpipelaw07.MatrixSums", spec := "matrixSums", unfollowed := true, recurses := true, named := ["math/bits.deBruijn32tab"], apart := false, laid := [("math/bits.deBruijn32tab", laid_math_bits_deBruijn32tab)] }
def MatrixSumsSaid : Prop := matrixSumsRow.holds Tryz.pinned (OpenSpec.ofChange matrixSumsSpec)

/-- ITS FALSE NEIGHBOUR: 'it returns false'. Refute it at one input. -/
def matrixSumsWrong : ChangeSpec := { name := "matrixSums", fn := fun _ => fun
  | [d1, d2, d3] => { results := [.lit (.bool false)], args := [d1, d2, d3] }
  | _ => none }
def MatrixSumsWrongFalsely : Prop := matrixSumsRow.holds Tryz.pinned (OpenSpec.ofChange matrixSumsWrong)

/-- 'flowpipelaw07.MatrixSmaller': WHATEVER THE INPUT: true; the input reads as it did. -/
def matrixSmallerSpec : ChangeSpec := { name := "matrixSmaller", fn := fun _ => fun
  | [d1, d2, d3, d4, d5] => { results := [.lit (.bool true)], args := [d1, d2, d3, d4, d5] }
  | _ => none }
def matrixSmallerRow : OpenClaim := { program := "ytdidocdpjiiedaagreatdoor", sum := "c4c066af2af1aa4480b51d856db16329395d5d6d1356dbb5af88609e150923de", func := "flowpipe/flowpipelaw07.MatrixSmaller", spec := "matrixSmaller", unfollowed := true, recurses := true, named := ["math/bits.deBruijn32tab"], apart := false, laid := [("math/bits.deBruijn32tab", laid_math_bits_deBruijn32tab)] }
def MatrixSmallerSaid : Prop := matrixSmallerRow.holds Tryz.pinned (OpenSpec.ofChange matrixSmallerSpec)

/-- ITS FALSE NEIGHBOUR: 'it returns false'. Refute it at one input. -/
def matrixSmallerWrong : ChangeSpec := { name := "matrixSmaller", fn := fun _ => fun
  | [d1, d2, d3, d4, d5] => { results := [.lit (.bool false)], args := [d1, d2, d3, d4, d5] }
  | _ => none }
def MatrixSmallerWrongFalsely : Prop := matrixSmallerRow.holds Tryz.pinned (OpenSpec.ofChange matrixSmallerWrong)

/-- 'flowpipelaw07.MatrixContains': WHATEVER THE INPUT: true; the input reads as it did. -/
def matrixContainsSpec : ChangeSpec := { name := "matrixContains", fn := fun _ => fun
  | [d1, d2, d3, d4] => { results := [.lit (.bool true)], args := [d1, d2, d3, d4] }
  | _ => none }
def matrixContainsRow : OpenClaim := { program := "ytdidocdpjiiedaagreatdoor", sum := "c4c066af2af1aa4480b51d856db16329395d5d6d1356dbb5af88609e150923de", func := "flowpipe/flowpipelaw07.MatrixContains", spec := "matrixContains", unfollowed := true, recurses := true, named := ["math/bits.deBruijn32tab"], apart := false, laid := [("math/bits.deBruijn32tab", laid_math_bits_deBruijn32tab)] }
def MatrixContainsSaid : Prop := matrixContainsRow.holds Tryz.pinned (OpenSpec.ofChange matrixContainsSpec)

/-- ITS FALSE NEIGHBOUR: 'it returns false'. Refute it at one input. -/
def matrixContainsWrong : ChangeSpec := { name := "matrixContains", fn := fun _ => fun
  | [d1, d2, d3, d4] => { results := [.lit (.bool false)], args := [d1, d2, d3, d4] }
  | _ => none }
def MatrixContainsWrongFalsely : Prop := matrixContainsRow.holds Tryz.pinned (OpenSpec.ofChange matrixContainsWrong)

/-- 'flowpipelaw07.MatrixIdentity': WHATEVER THE INPUT: true; the input reads as it did. -/
def matrixIdentitySpec : ChangeSpec := { name := "matrixIdentity", fn := fun _ => fun
  | [d1, d2, d3] => { results := [.lit (.bool true)], args := [d1, d2, d3] }
  | _ => none }
def matrixIdentityRow : OpenClaim := { program := "ytdidocdpjiiedaagreatdoor", sum := "c4c066af2af1aa4480b51d856db16329395d5d6d1356dbb5af88609e150923de", func := "flowpipe/flowpipelaw07.MatrixIdentity", spec := "matrixIdentity", unfollowed := true, recurses := true, named := ["math/bits.deBruijn32tab"], apart := false, laid := [("math/bits.deBruijn32tab", laid_math_bits_deBruijn32tab)] }
def MatrixIdentitySaid : Prop := matrixIdentityRow.holds Tryz.pinned (OpenSpec.ofChange matrixIdentitySpec)

/-- ITS FALSE NEIGHBOUR: 'it returns false'. Refute it at one input. -/
def matrixIdentityWrong : ChangeSpec := { name := "matrixIdentity", fn := fun _ => fun
  | [d1, d2, d3] => { results := [.lit (.bool false)], args := [d1, d2, d3] }
  | _ => none }
def MatrixIdentityWrongFalsely : Prop := matrixIdentityRow.holds Tryz.pinned (OpenSpec.ofChange matrixIdentityWrong)

/-- 'flowpipelaw07.MatrixPowers': WHATEVER THE INPUT: true; the input reads as it did. -/
def matrixPowersSpec : ChangeSpec := { name := "matrixPowers", fn := fun _ => fun
  | [d1, d2, d3, d4] => { results := [.lit (.bool true)], args := [d1, d2, d3, d4] }
  | _ => none }
def matrixPowersRow : OpenClaim := { program := "ytdidocdpjiiedaagreatdoor", sum := "c4c066af2af1aa4480b51d856db16329395d5d6d1356dbb5af88609e150923de", func := "flowpipe/flowpipelaw07.MatrixPowers", spec := "matrixPowers", unfollowed := true, recurses := true, named := ["math/bits.deBruijn32tab"], apart := false, laid := [("math/bits.deBruijn32tab", laid_math_bits_deBruijn32tab)] }
def MatrixPowersSaid : Prop := matrixPowersRow.holds Tryz.pinned (OpenSpec.ofChange matrixPowersSpec)

/-- ITS FALSE NEIGHBOUR: 'it returns false'. Refute it at one input. -/
def matrixPowersWrong : ChangeSpec := { name := "matrixPowers", fn := fun _ => fun
  | [d1, d2, d3, d4] => { results := [.lit (.bool false)], args := [d1, d2, d3, d4] }
  | _ => none }
def MatrixPowersWrongFalsely : Prop := matrixPowersRow.holds Tryz.pinned (OpenSpec.ofChange matrixPowersWrong)

/- THE SECOND FORM. 'bulk': how many values and letters a reading holds, each counted each time it is reached (what is shared counts as often as it is met; a slice's spare places count too). A statement '..UptoSaid' is the law's where the arguments, and the package variables that the reading takes, are together of bulk at most 1048576: NARROWER than '..Said'. Prove '..Said' where nothing that the law and all that it calls make is longer than what came in: it says more and counts as full. Else prove '..UptoSaid'. A law counts once. -/
mutual
def uptoBulk {H : Type} : DataW H → Nat
  | .lit (.string bytes) => bytes.length + 1
  | .lit _ => 1
  | .nil => 1
  | .ptr d => uptoBulk d + 1
  | .slice elems spare => uptoBulkAll elems + uptoBulkAll spare + 1
  | .agg parts => uptoBulkAll parts + 1
  | .iface _ d => uptoBulk d + 1
  | .map entries => uptoBulkEntries entries + 1
  | .held _ => 1
def uptoBulkAll {H : Type} : List (DataW H) → Nat
  | [] => 0
  | d :: r => uptoBulk d + uptoBulkAll r
def uptoBulkEntries {H : Type} : List (Lit × DataW H) → Nat
  | [] => 0
  | x :: r => uptoBulkEntry x + uptoBulkEntries r
def uptoBulkEntry {H : Type} : Lit × DataW H → Nat
  | (.string bytes, d) => bytes.length + uptoBulk d + 1
  | (_, d) => uptoBulk d + 1
 end
def uptoSmall : (H : Type) → List (DataW H) → Bool := fun _ ds => decide (uptoBulkAll ds ≤ 1048576)
def OpenSpec.upto (s : _root_.Go.ChangeSpec) : _root_.Go.OpenSpec := { _root_.Go.OpenSpec.ofChange s with cond := some uptoSmall }

/-- 'flowpipelaw07.MatrixNorms', WHERE WHAT IT READS IS OF BULK AT MOST 1048576: true; the input reads as it did. -/
def matrixNormsUptoRow : OpenClaim := { program := "ytdidocdpjiiedaagreatdoor", sum := "c4c066af2af1aa4480b51d856db16329395d5d6d1356dbb5af88609e150923de", func := "flowpipe/flowpipelaw07.MatrixNorms", spec := "matrixNorms", unfollowed := true, recurses := true, named := ["math/bits.deBruijn32tab"], apart := false, laid := [("math/bits.deBruijn32tab", laid_math_bits_deBruijn32tab)], narrowed := true }
def MatrixNormsUptoSaid : Prop := matrixNormsUptoRow.holds Tryz.pinned (OpenSpec.upto matrixNormsSpec)

/-- 'flowpipelaw07.MatrixProducts', WHERE WHAT IT READS IS OF BULK AT MOST 1048576: true; the input reads as it did. -/
def matrixProductsUptoRow : OpenClaim := { program := "ytdidocdpjiiedaagreatdoor", sum := "c4c066af2af1aa4480b51d856db16329395d5d6d1356dbb5af88609e150923de", func := "flowpipe/flowpipelaw07.MatrixProducts", spec := "matrixProducts", unfollowed := true, recurses := true, named := ["math/bits.deBruijn32tab"], apart := false, laid := [("math/bits.deBruijn32tab", laid_math_bits_deBruijn32tab)], narrowed := true }
def MatrixProductsUptoSaid : Prop := matrixProductsUptoRow.holds Tryz.pinned (OpenSpec.upto matrixProductsSpec)

/-- 'flowpipelaw07.MatrixApplies', WHERE WHAT IT READS IS OF BULK AT MOST 1048576: true; the input reads as it did. -/
def matrixAppliesUptoRow : OpenClaim := { program := "ytdidocdpjiiedaagreatdoor", sum := "c4c066af2af1aa4480b51d856db16329395d5d6d1356dbb5af88609e150923de", func := "flowpipe/flowpipelaw07.MatrixApplies", spec := "matrixApplies", unfollowed := true, recurses := true, named := ["math/bits.deBruijn32tab"], apart := false, laid := [("math/bits.deBruijn32tab", laid_math_bits_deBruijn32tab)], narrowed := true }
def MatrixAppliesUptoSaid : Prop := matrixAppliesUptoRow.holds Tryz.pinned (OpenSpec.upto matrixAppliesSpec)

/-- 'flowpipelaw07.MatrixSums', WHERE WHAT IT READS IS OF BULK AT MOST 1048576: true; the input reads as it did. -/
def matrixSumsUptoRow : OpenClaim := { program := "ytdidocdpjiiedaagreatdoor", sum := "c4c066af2af1aa4480b51d856db16329395d5d6d1356dbb5af88609e150923de", func := "flowpipe/flowpipelaw07.MatrixSums", spec := "matrixSums", unfollowed := true, recurses := true, named := ["math/bits.deBruijn32tab"], apart := false, laid := [("math/bits.deBruijn32tab", laid_math_bits_deBruijn32tab)], narrowed := true }
def MatrixSumsUptoSaid : Prop := matrixSumsUptoRow.holds Tryz.pinned (OpenSpec.upto matrixSumsSpec)

/-- 'flowpipelaw07.MatrixSmaller', WHERE WHAT IT READS IS OF BULK AT MOST 1048576: true; the input reads as it did. -/
def matrixSmallerUptoRow : OpenClaim := { program := "ytdidocdpjiiedaagreatdoor", sum := "c4c066af2af1aa4480b51d856db16329395d5d6d1356dbb5af88609e150923de", func := "flowpipe/flowpipelaw07.MatrixSmaller", spec := "matrixSmaller", unfollowed := true, recurses := true, named := ["math/bits.deBruijn32tab"], apart := false, laid := [("math/bits.deBruijn32tab", laid_math_bits_deBruijn32tab)], narrowed := true }
def MatrixSmallerUptoSaid : Prop := matrixSmallerUptoRow.holds Tryz.pinned (OpenSpec.upto matrixSmallerSpec)

/-- 'flowpipelaw07.MatrixContains', WHERE WHAT IT READS IS OF BULK AT MOST 1048576: true; the input reads as it did. -/
def matrixContainsUptoRow : OpenClaim := { program := "ytdidocdpjiiedaagreatdoor", sum := "c4c066af2af1aa4480b51d856db16329395d5d6d1356dbb5af88609e150923de", func := "flowpipe/flowpipelaw07.MatrixContains", spec := "matrixContains", unfollowed := true, recurses := true, named := ["math/bits.deBruijn32tab"], apart := false, laid := [("math/bits.deBruijn32tab", laid_math_bits_deBruijn32tab)], narrowed := true }
def MatrixContainsUptoSaid : Prop := matrixContainsUptoRow.holds Tryz.pinned (OpenSpec.upto matrixContainsSpec)

/-- 'flowpipelaw07.MatrixIdentity', WHERE WHAT IT READS IS OF BULK AT MOST 1048576: true; the input reads as it did. -/
def matrixIdentityUptoRow : OpenClaim := { program := "ytdidocdpjiiedaagreatdoor", sum := "c4c066af2af1aa4480b51d856db16329395d5d6d1356dbb5af88609e150923de", func := "flowpipe/flowpipelaw07.MatrixIdentity", spec := "matrixIdentity", unfollowed := true, recurses := true, named := ["math/bits.deBruijn32tab"], apart := false, laid := [("math/bits.deBruijn32tab", laid_math_bits_deBruijn32tab)], narrowed := true }
def MatrixIdentityUptoSaid : Prop := matrixIdentityUptoRow.holds Tryz.pinned (OpenSpec.upto matrixIdentitySpec)

/-- 'flowpipelaw07.MatrixPowers', WHERE WHAT IT READS IS OF BULK AT MOST 1048576: true; the input reads as it did. -/
def matrixPowersUptoRow : OpenClaim := { program := "ytdidocdpjiiedaagreatdoor", sum := "c4c066af2af1aa4480b51d856db16329395d5d6d1356dbb5af88609e150923de", func := "flowpipe/flowpipelaw07.MatrixPowers", spec := "matrixPowers", unfollowed := true, recurses := true, named := ["math/bits.deBruijn32tab"], apart := false, laid := [("math/bits.deBruijn32tab", laid_math_bits_deBruijn32tab)], narrowed := true }
def MatrixPowersUptoSaid : Prop := matrixPowersUptoRow.holds Tryz.pinned (OpenSpec.upto matrixPowersSpec)

end Rows
end Go.Proofs.YtdidocdpjiiedaaGreatDoor
