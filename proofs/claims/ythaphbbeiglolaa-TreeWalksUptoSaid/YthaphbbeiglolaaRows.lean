/-
  NARROWER THAN 'FOR EVERY INPUT', by the rows' own cells (each row's printed sentence says how): TreeReplaces: loops · TreeGrows: loops · TreeCounts: loops · TreeWalks: loops · TreeOwn: loops · TreeRenames: loops · TreeBack: loops.
  DERIVED. THE GIVEN ROWS OF THIS SEAT. 7 by the template 'for every input the law returns true; each argument reads behind the call as it read before'; 0 by the template 'total and deterministic' (their statements: YthaphbbeiglolaaTotals.lean).
  GIVEN WITH THE SEED: the statements are not yours to turn. If you find one false, say at which input.
  Laid BY PROGRAM, IN A SANDBOX (cutbox-rows.mjs): the forced cells as the released guide's own fill.sh prints them over the translation adc44cec4e9b3d37… (all of the seat's roots in one cut). By AI agents, Wed Nov 11 2026. No macro, syntax, notation, axiom, sorry.
-/
import Derived.Test.YthaphbbeiglolaaChecked
import GoSem.Claim
import GoSem.ClaimJoined
import GoSem.ClaimMapViews
import Derived.JoinedTies
import Derived.KernelRfl
namespace Go.Proofs.Ythaphbbeiglolaa
/- THE CELL 'sum', in the pinned program and in every row, IS THE sha256 OF THE DUMP (.gsa) THAT YthaphbbeiglolaaProg.lean LOADS. Nothing in Lean hashes anything: it is a label: what it is worth is what the hold of that sum in a sandbox is worth. -/
noncomputable def Try.pinned : Pinned := { name := "ythaphbbeiglolaa", sum := "adc44cec4e9b3d37eb871fb7f0328d7cf4a79364c437a425606eff6733fd2e2e", checked := Try.checked }
namespace Rows
def none {H : Type} : Left H := { results := [], args := [] }

/-- 'flowpipelaw13.TreeReplaces': WHATEVER THE INPUT: true; the input reads as it did. -/
def treeReplacesSpec : ChangeSpec := { name := "treeReplaces", fn := fun _ => fun
  | [d1, d2, d3] => { results := [.lit (.bool true)], args := [d1, d2, d3] }
  | _ => none }
def treeReplacesRow : OpenClaim := { program := "ythaphbbeiglolaa", sum := "adc44cec4e9b3d37eb871fb7f0328d7cf4a79364c437a425606eff6733fd2e2e", func := "flowpipe/flowpipelaw13.TreeReplaces", spec := "treeReplaces", inPlace := ["internal/bytealg.IndexByteString"], unfollowed := true, recurses := true, loops := true, apart := false }
def TreeReplacesSaid : Prop := treeReplacesRow.holds Try.pinned (OpenSpec.ofChange treeReplacesSpec)

/-- ITS FALSE NEIGHBOUR: 'it returns false'. Refute it at one input. -/
def treeReplacesWrong : ChangeSpec := { name := "treeReplaces", fn := fun _ => fun
  | [d1, d2, d3] => { results := [.lit (.bool false)], args := [d1, d2, d3] }
  | _ => none }
def TreeReplacesWrongFalsely : Prop := treeReplacesRow.holds Try.pinned (OpenSpec.ofChange treeReplacesWrong)

/-- 'flowpipelaw13.TreeGrows': WHATEVER THE INPUT: true; the input reads as it did. -/
def treeGrowsSpec : ChangeSpec := { name := "treeGrows", fn := fun _ => fun
  | [d1, d2, d3] => { results := [.lit (.bool true)], args := [d1, d2, d3] }
  | _ => none }
def treeGrowsRow : OpenClaim := { program := "ythaphbbeiglolaa", sum := "adc44cec4e9b3d37eb871fb7f0328d7cf4a79364c437a425606eff6733fd2e2e", func := "flowpipe/flowpipelaw13.TreeGrows", spec := "treeGrows", inPlace := ["internal/bytealg.IndexByteString"], unfollowed := true, recurses := true, loops := true, apart := false }
def TreeGrowsSaid : Prop := treeGrowsRow.holds Try.pinned (OpenSpec.ofChange treeGrowsSpec)

/-- ITS FALSE NEIGHBOUR: 'it returns false'. Refute it at one input. -/
def treeGrowsWrong : ChangeSpec := { name := "treeGrows", fn := fun _ => fun
  | [d1, d2, d3] => { results := [.lit (.bool false)], args := [d1, d2, d3] }
  | _ => none }
def TreeGrowsWrongFalsely : Prop := treeGrowsRow.holds Try.pinned (OpenSpec.ofChange treeGrowsWrong)

/-- 'flowpipelaw13.TreeCounts': WHATEVER THE INPUT: true; the input reads as it did. -/
def treeCountsSpec : ChangeSpec := { name := "treeCounts", fn := fun _ => fun
  | [d] => { results := [.lit (.bool true)], args := [d] }
  | _ => none }
def treeCountsRow : OpenClaim := { program := "ythaphbbeiglolaa", sum := "adc44cec4e9b3d37eb871fb7f0328d7cf4a79364c437a425606eff6733fd2e2e", func := "flowpipe/flowpipelaw13.TreeCounts", spec := "treeCounts", inPlace := ["internal/bytealg.IndexByteString"], unfollowed := true, recurses := true, loops := true, apart := false }
def TreeCountsSaid : Prop := treeCountsRow.holds Try.pinned (OpenSpec.ofChange treeCountsSpec)

/-- ITS FALSE NEIGHBOUR: 'it returns false'. Refute it at one input. -/
def treeCountsWrong : ChangeSpec := { name := "treeCounts", fn := fun _ => fun
  | [d] => { results := [.lit (.bool false)], args := [d] }
  | _ => none }
def TreeCountsWrongFalsely : Prop := treeCountsRow.holds Try.pinned (OpenSpec.ofChange treeCountsWrong)

/-- 'flowpipelaw13.TreeWalks': WHATEVER THE INPUT: true; the input reads as it did. -/
def treeWalksSpec : ChangeSpec := { name := "treeWalks", fn := fun _ => fun
  | [d1, d2] => { results := [.lit (.bool true)], args := [d1, d2] }
  | _ => none }
def treeWalksRow : OpenClaim := { program := "ythaphbbeiglolaa", sum := "adc44cec4e9b3d37eb871fb7f0328d7cf4a79364c437a425606eff6733fd2e2e", func := "flowpipe/flowpipelaw13.TreeWalks", spec := "treeWalks", inPlace := ["internal/bytealg.IndexByteString"], unfollowed := true, recurses := true, loops := true, apart := false }
def TreeWalksSaid : Prop := treeWalksRow.holds Try.pinned (OpenSpec.ofChange treeWalksSpec)

/-- ITS FALSE NEIGHBOUR: 'it returns false'. Refute it at one input. -/
def treeWalksWrong : ChangeSpec := { name := "treeWalks", fn := fun _ => fun
  | [d1, d2] => { results := [.lit (.bool false)], args := [d1, d2] }
  | _ => none }
def TreeWalksWrongFalsely : Prop := treeWalksRow.holds Try.pinned (OpenSpec.ofChange treeWalksWrong)

/-- 'flowpipelaw13.TreeOwn': WHATEVER THE INPUT: true; the input reads as it did. -/
def treeOwnSpec : ChangeSpec := { name := "treeOwn", fn := fun _ => fun
  | [d1, d2, d3] => { results := [.lit (.bool true)], args := [d1, d2, d3] }
  | _ => none }
def treeOwnRow : OpenClaim := { program := "ythaphbbeiglolaa", sum := "adc44cec4e9b3d37eb871fb7f0328d7cf4a79364c437a425606eff6733fd2e2e", func := "flowpipe/flowpipelaw13.TreeOwn", spec := "treeOwn", inPlace := ["internal/bytealg.IndexByteString"], unfollowed := true, recurses := true, loops := true, apart := false }
def TreeOwnSaid : Prop := treeOwnRow.holds Try.pinned (OpenSpec.ofChange treeOwnSpec)

/-- ITS FALSE NEIGHBOUR: 'it returns false'. Refute it at one input. -/
def treeOwnWrong : ChangeSpec := { name := "treeOwn", fn := fun _ => fun
  | [d1, d2, d3] => { results := [.lit (.bool false)], args := [d1, d2, d3] }
  | _ => none }
def TreeOwnWrongFalsely : Prop := treeOwnRow.holds Try.pinned (OpenSpec.ofChange treeOwnWrong)

/-- 'flowpipelaw13.TreeRenames': WHATEVER THE INPUT: true; the input reads as it did. -/
def treeRenamesSpec : ChangeSpec := { name := "treeRenames", fn := fun _ => fun
  | [d1, d2, d3] => { results := [.lit (.bool true)], args := [d1, d2, d3] }
  | _ => none }
def treeRenamesRow : OpenClaim := { program := "ythaphbbeiglolaa", sum := "adc44cec4e9b3d37eb871fb7f0328d7cf4a79364c437a425606eff6733fd2e2e", func := "flowpipe/flowpipelaw13.TreeRenames", spec := "treeRenames", inPlace := ["internal/bytealg.IndexByteString"], unfollowed := true, recurses := true, loops := true, apart := false }
def TreeRenamesSaid : Prop := treeRenamesRow.holds Try.pinned (OpenSpec.ofChange treeRenamesSpec)

/-- ITS FALSE NEIGHBOUR: 'it returns false'. Refute it at one input. -/
def treeRenamesWrong : ChangeSpec := { name := "treeRenames", fn := fun _ => fun
  | [d1, d2, d3] => { results := [.lit (.bool false)], args := [d1, d2, d3] }
  | _ => none }
def TreeRenamesWrongFalsely : Prop := treeRenamesRow.holds Try.pinned (OpenSpec.ofChange treeRenamesWrong)

/-- 'flowpipelaw13.TreeBack': WHATEVER THE INPUT: true; the input reads as it did. -/
def treeBackSpec : ChangeSpec := { name := "treeBack", fn := fun _ => fun
  | [d1, d2, d3, d4] => { results := [.lit (.bool true)], args := [d1, d2, d3, d4] }
  | _ => none }
def treeBackRow : OpenClaim := { program := "ythaphbbeiglolaa", sum := "adc44cec4e9b3d37eb871fb7f0328d7cf4a79364c437a425606eff6733fd2e2e", func := "flowpipe/flowpipelaw13.TreeBack", spec := "treeBack", inPlace := ["internal/bytealg.IndexByteString"], unfollowed := true, recurses := true, loops := true, apart := false }
def TreeBackSaid : Prop := treeBackRow.holds Try.pinned (OpenSpec.ofChange treeBackSpec)

/-- ITS FALSE NEIGHBOUR: 'it returns false'. Refute it at one input. -/
def treeBackWrong : ChangeSpec := { name := "treeBack", fn := fun _ => fun
  | [d1, d2, d3, d4] => { results := [.lit (.bool false)], args := [d1, d2, d3, d4] }
  | _ => none }
def TreeBackWrongFalsely : Prop := treeBackRow.holds Try.pinned (OpenSpec.ofChange treeBackWrong)

/- THE SECOND FORM. 'bulk': how many values and letters a reading holds, each counted each time it is reached (what is shared counts as often as it is met; a slice's spare places count too). A statement '..UptoSaid' is the law's where the arguments, and the package variables that the reading takes, are together of bulk at most 1048576: NARROWER than '..Said'. Prove '..Said' where nothing that the law and all that it calls make is longer than what came in: it says more and counts as full. Else prove '..UptoSaid'. A law counts once. -/
mutual
def uptoBulk {H : Type} : DataW H → Nat
  | .lit (.string bytes) => bytes.length + 1
  | .lit _ => 1
  | .nil => 1
  | .ptr d => uptoBulk d + 1
  | .slice elems spare => uptoBulkAll elems + uptoBulkAll spare + 1
  | .agg parts => uptoBulkAll parts + 1
  | .iface _ d => uptoBulk d + 1
  | .map entries => uptoBulkEntries entries + 1
  | .held _ => 1
def uptoBulkAll {H : Type} : List (DataW H) → Nat
  | [] => 0
  | d :: r => uptoBulk d + uptoBulkAll r
def uptoBulkEntries {H : Type} : List (Lit × DataW H) → Nat
  | [] => 0
  | x :: r => uptoBulkEntry x + uptoBulkEntries r
def uptoBulkEntry {H : Type} : Lit × DataW H → Nat
  | (.string bytes, d) => bytes.length + uptoBulk d + 1
  | (_, d) => uptoBulk d + 1
 end
def uptoSmall : (H : Type) → List (DataW H) → Bool := fun _ ds => decide (uptoBulkAll ds ≤ 1048576)
def OpenSpec.upto (s : _root_.Go.ChangeSpec) : _root_.Go.OpenSpec := { _root_.Go.OpenSpec.ofChange s with cond := some uptoSmall }

/-- 'flowpipelaw13.TreeReplaces', WHERE WHAT IT READS IS OF BULK AT MOST 1048576: true; the input reads as it did. -/
def treeReplacesUptoRow : OpenClaim := { program := "ythaphbbeiglolaa", sum := "adc44cec4e9b3d37eb871fb7f0328d7cf4a79364c437a425606eff6733fd2e2e", func := "flowpipe/flowpipelaw13.TreeReplaces", spec := "treeReplaces", inPlace := ["internal/bytealg.IndexByteString"], unfollowed := true, recurses := true, loops := true, apart := false, narrowed := true }
def TreeReplacesUptoSaid : Prop := treeReplacesUptoRow.holds Try.pinned (OpenSpec.upto treeReplacesSpec)

/-- 'flowpipelaw13.TreeGrows', WHERE WHAT IT READS IS OF BULK AT MOST 1048576: true; the input reads as it did. -/
def treeGrowsUptoRow : OpenClaim := { program := "ythaphbbeiglolaa", sum := "adc44cec4e9b3d37eb871fb7f0328d7cf4a79364c437a425606eff6733fd2e2e", func := "flowpipe/flowpipelaw13.TreeGrows", spec := "treeGrows", inPlace := ["internal/bytealg.IndexByteString"], unfollowed := true, recurses := true, loops := true, apart := false, narrowed := true }
def TreeGrowsUptoSaid : Prop := treeGrowsUptoRow.holds Try.pinned (OpenSpec.upto treeGrowsSpec)

/-- 'flowpipelaw13.TreeCounts', WHERE WHAT IT READS IS OF BULK AT MOST 1048576: true; the input reads as it did. -/
def treeCountsUptoRow : OpenClaim := { program := "ythaphbbeiglolaa", sum := "adc44cec4e9b3d37eb871fb7f0328d7cf4a79364c437a425606eff6733fd2e2e", func := "flowpipe/flowpipelaw13.TreeCounts", spec := "treeCounts", inPlace := ["internal/bytealg.IndexByteString"], unfollowed := true, recurses := true, loops := true, apart := false, narrowed := true }
def TreeCountsUptoSaid : Prop := treeCountsUptoRow.holds Try.pinned (OpenSpec.upto treeCountsSpec)

/-- 'flowpipelaw13.TreeWalks', WHERE WHAT IT READS IS OF BULK AT MOST 1048576: true; the input reads as it did. -/
def treeWalksUptoRow : OpenClaim := { program := "ythaphbbeiglolaa", sum := "adc44cec4e9b3d37eb871fb7f0328d7cf4a79364c437a425606eff6733fd2e2e", func := "flowpipe/flowpipelaw13.TreeWalks", spec := "treeWalks", inPlace := ["internal/bytealg.IndexByteString"], unfollowed := true, recurses := true, loops := true, apart := false, narrowed := true }
def TreeWalksUptoSaid : Prop := treeWalksUptoRow.holds Try.pinned (OpenSpec.upto treeWalksSpec)

/-- 'flowpipelaw13.TreeOwn', WHERE WHAT IT READS IS OF BULK AT MOST 1048576: true; the input reads as it did. -/
def treeOwnUptoRow : OpenClaim := { program := "ythaphbbeiglolaa", sum := "adc44cec4e9b3d37eb871fb7f0328d7cf4a79364c437a425606eff6733fd2e2e", func := "flowpipe/flowpipelaw13.TreeOwn", spec := "treeOwn", inPlace := ["internal/bytealg.IndexByteString"], unfollowed := true, recurses := true, loops := true, apart := false, narrowed := true }
def TreeOwnUptoSaid : Prop := treeOwnUptoRow.holds Try.pinned (OpenSpec.upto treeOwnSpec)

/-- 'flowpipelaw13.TreeRenames', WHERE WHAT IT READS IS OF BULK AT MOST 1048576: true; the input reads as it did. -/
def treeRenamesUptoRow : OpenClaim := { program := "ythaphbbeiglolaa", sum := "adc44cec4e9b3d37eb871fb7f0328d7cf4a79364c437a425606eff6733fd2e2e", func := "flowpipe/flowpipelaw13.TreeRenames", spec := "treeRenames", inPlace := ["internal/bytealg.IndexByteString"], unfollowed := true, recurses := true, loops := true, apart := false, narrowed := true }
def TreeRenamesUptoSaid : Prop := treeRenamesUptoRow.holds Try.pinned (OpenSpec.upto treeRenamesSpec)

/-- 'flowpipelaw13.TreeBack', WHERE WHAT IT READS IS OF BULK AT MOST 1048576: true; the input reads as it did. -/
def treeBackUptoRow : OpenClaim := { program := "ythaphbbeiglolaa", sum := "adc44cec4e9b3d37eb871fb7f0328d7cf4a79364c437a425606eff6733fd2e2e", func := "flowpipe/flowpipelaw13.TreeBack", spec := "treeBack", inPlace := ["internal/bytealg.IndexByteString"], unfollowed := true, recurses := true, loops := true, apart := false, narrowed := true }
def TreeBackUptoSaid : Prop := treeBackUptoRow.holds Try.pinned (OpenSpec.upto treeBackSpec)

end Rows
end Go.Proofs.Ythaphbbeiglolaa
