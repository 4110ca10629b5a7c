/-
  NARROWER THAN 'FOR EVERY INPUT', by the rows' own cells (each row's printed sentence says how): TreeValid: loops · TreeEqual: loops.
  DERIVED. THE GIVEN ROWS OF THIS SEAT. 2 by the template 'for every input the law returns true; each argument reads behind the call as it read before'; 0 by the template 'total and deterministic' (their statements: YthaphbbeiglolaaGreatTotals.lean).
  GIVEN WITH THE SEED: the statements are not yours to turn. If you find one false, say at which input.
  Laid BY PROGRAM, IN A SANDBOX (cutbox-rows.mjs): the forced cells as the released guide's own fill.sh prints them over the translation 6700213a9e229400… (all of the seat's roots in one cut). By AI agents, Wed Nov 11 2026. No macro, syntax, notation, axiom, sorry.
-/
import Derived.Test.YthaphbbeiglolaaGreatChecked
import GoSem.Claim
import GoSem.ClaimJoined
import GoSem.ClaimMapViews
import Derived.JoinedTies
import Derived.KernelRfl
namespace Go.Proofs.YthaphbbeiglolaaGreat
/- THE CELL 'sum', in the pinned program and in every row, IS THE sha256 OF THE DUMP (.gsa) THAT YthaphbbeiglolaaGreatProg.lean LOADS. Nothing in Lean hashes anything: it is a label: what it is worth is what the hold of that sum in a sandbox is worth. -/
noncomputable def Tryz.pinned : Pinned := { name := "ythaphbbeiglolaagreat", sum := "6700213a9e2294001bf9795ae40ab83868d1b6e9e9f81b26c7fcc319bbeaaef8", checked := Tryz.checked }
namespace Rows
def none {H : Type} : Left H := { results := [], args := [] }

/-- 'flowpipelaw13.TreeValid': WHATEVER THE INPUT: true; the input reads as it did. -/
def treeValidSpec : ChangeSpec := { name := "treeValid", fn := fun _ => fun
  | [d1, d2] => { results := [.lit (.bool true)], args := [d1, d2] }
  | _ => none }
def treeValidRow : OpenClaim := { program := "ythaphbbeiglolaagreat", sum := "6700213a9e2294001bf9795ae40ab83868d1b6e9e9f81b26c7fcc319bbeaaef8", func := "flowpipe/flowpipelaw13.TreeValid", spec := "treeValid", inPlace := ["internal/bytealg.IndexByteString"], unfollowed := true, recurses := true, loops := true, apart := false }
def TreeValidSaid : Prop := treeValidRow.holds Tryz.pinned (OpenSpec.ofChange treeValidSpec)

/-- ITS FALSE NEIGHBOUR: 'it returns false'. Refute it at one input. -/
def treeValidWrong : ChangeSpec := { name := "treeValid", fn := fun _ => fun
  | [d1, d2] => { results := [.lit (.bool false)], args := [d1, d2] }
  | _ => none }
def TreeValidWrongFalsely : Prop := treeValidRow.holds Tryz.pinned (OpenSpec.ofChange treeValidWrong)

/-- 'flowpipelaw13.TreeEqual': WHATEVER THE INPUT: true; the input reads as it did. -/
def treeEqualSpec : ChangeSpec := { name := "treeEqual", fn := fun _ => fun
  | [d1, d2, d3, d4] => { results := [.lit (.bool true)], args := [d1, d2, d3, d4] }
  | _ => none }
def treeEqualRow : OpenClaim := { program := "ythaphbbeiglolaagreat", sum := "6700213a9e2294001bf9795ae40ab83868d1b6e9e9f81b26c7fcc319bbeaaef8", func := "flowpipe/flowpipelaw13.TreeEqual", spec := "treeEqual", inPlace := ["internal/bytealg.IndexByteString"], unfollowed := true, recurses := true, loops := true, apart := false }
def TreeEqualSaid : Prop := treeEqualRow.holds Tryz.pinned (OpenSpec.ofChange treeEqualSpec)

/-- ITS FALSE NEIGHBOUR: 'it returns false'. Refute it at one input. -/
def treeEqualWrong : ChangeSpec := { name := "treeEqual", fn := fun _ => fun
  | [d1, d2, d3, d4] => { results := [.lit (.bool false)], args := [d1, d2, d3, d4] }
  | _ => none }
def TreeEqualWrongFalsely : Prop := treeEqualRow.holds Tryz.pinned (OpenSpec.ofChange treeEqualWrong)

/- THE SECOND FORM. 'bulk': how many values and letters a reading holds, each counted each time it is reached (what is shared counts as often as it is met; a slice's spare places count too). A statement '..UptoSaid' is the law's where the arguments, and the package variables that the reading takes, are together of bulk at most 1048576: NARROWER than '..Said'. Prove '..Said' where nothing that the law and all that it calls make is longer than what came in: it says more and counts as full. Else prove '..UptoSaid'. A law counts once. -/
mutual
def uptoBulk {H : Type} : DataW H → Nat
  | .lit (.string bytes) => bytes.length + 1
  | .lit _ => 1
  | .nil => 1
  | .ptr d => uptoBulk d + 1
  | .slice elems spare => uptoBulkAll elems + uptoBulkAll spare + 1
  | .agg parts => uptoBulkAll parts + 1
  | .iface _ d => uptoBulk d + 1
  | .map entries => uptoBulkEntries entries + 1
  | .held _ => 1
def uptoBulkAll {H : Type} : List (DataW H) → Nat
  | [] => 0
  | d :: r => uptoBulk d + uptoBulkAll r
def uptoBulkEntries {H : Type} : List (Lit × DataW H) → Nat
  | [] => 0
  | x :: r => uptoBulkEntry x + uptoBulkEntries r
def uptoBulkEntry {H : Type} : Lit × DataW H → Nat
  | (.string bytes, d) => bytes.length + uptoBulk d + 1
  | (_, d) => uptoBulk d + 1
 end
def uptoSmall : (H : Type) → List (DataW H) → Bool := fun _ ds => decide (uptoBulkAll ds ≤ 1048576)
def OpenSpec.upto (s : _root_.Go.ChangeSpec) : _root_.Go.OpenSpec := { _root_.Go.OpenSpec.ofChange s with cond := some uptoSmall }

/-- 'flowpipelaw13.TreeValid', WHERE WHAT IT READS IS OF BULK AT MOST 1048576: true; the input reads as it did. -/
def treeValidUptoRow : OpenClaim := { program := "ythaphbbeiglolaagreat", sum := "6700213a9e2294001bf9795ae40ab83868d1b6e9e9f81b26c7fcc319bbeaaef8", func := "flowpipe/flowpipelaw13.TreeValid", spec := "treeValid", inPlace := ["internal/bytealg.IndexByteString"], unfollowed := true, recurses := true, loops := true, apart := false, narrowed := true }
def TreeValidUptoSaid : Prop := treeValidUptoRow.holds Tryz.pinned (OpenSpec.upto treeValidSpec)

/-- 'flowpipelaw13.TreeEqual', WHERE WHAT IT READS IS OF BULK AT MOST 1048576: true; the input reads as it did. -/
def treeEqualUptoRow : OpenClaim := { program := "ythaphbbeiglolaagreat", sum := "6700213a9e2294001bf9795ae40ab83868d1b6e9e9f81b26c7fcc319bbeaaef8", func := "flowpipe/flowpipelaw13.TreeEqual", spec := "treeEqual", inPlace := ["internal/bytealg.IndexByteString"], unfollowed := true, recurses := true, loops := true, apart := false, narrowed := true }
def TreeEqualUptoSaid : Prop := treeEqualUptoRow.holds Tryz.pinned (OpenSpec.upto treeEqualSpec)

end Rows
end Go.Proofs.YthaphbbeiglolaaGreat
