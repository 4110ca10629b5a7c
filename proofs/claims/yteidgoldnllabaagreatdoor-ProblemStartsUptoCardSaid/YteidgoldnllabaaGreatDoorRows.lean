/-
  NARROWER THAN 'FOR EVERY INPUT', by the rows' own cells (each row's printed sentence says how): ProblemChecks: loops, laid · ProblemFinds: loops, laid · ProblemValues: loops, laid · ProblemExprs: loops, laid · ProblemSystems: loops, laid · ProblemFaults: loops, laid · ProblemOrder: loops, laid · ProblemAccepts: laid · ProblemShares: loops, laid · ProblemStarts: loops, laid.
  DERIVED. THE GIVEN ROWS OF THIS SEAT. 10 by the template 'for every input the law returns true; each argument reads behind the call as it read before'; 0 by the template 'total and deterministic' (their statements: YteidgoldnllabaaGreatDoorTotals.lean).
  GIVEN WITH THE SEED: the statements are not yours to turn. If you find one false, say at which input.
  Laid BY PROGRAM, IN A SANDBOX (cutbox-rows.mjs): the forced cells as the released guide's own fill.sh prints them over the translation e91cec72e02848e8… (all of the seat's roots in one cut). By AI agents, Wed Nov 11 2026. No macro, syntax, notation, axiom, sorry.
-/
import Derived.Test.YteidgoldnllabaaGreatDoorChecked
import GoSem.Claim
import GoSem.ClaimJoined
import GoSem.ClaimMapViews
import Derived.JoinedTies
import Derived.KernelRfl
namespace Go.Proofs.YteidgoldnllabaaGreatDoor
/- THE CELL 'sum', in the pinned program and in every row, IS THE sha256 OF THE DUMP (.gsa) THAT YteidgoldnllabaaGreatDoorProg.lean LOADS. Nothing in Lean hashes anything: it is a label: what it is worth is what the hold of that sum in a sandbox is worth. -/
noncomputable def Tryz.pinned : Pinned := { name := "yteidgoldnllabaagreatdoor", sum := "e91cec72e02848e8a4531b01e3d1924f6c9540d8cd2934e12f9b6e3fe1903130", checked := Tryz.checked }
namespace Rows
def none {H : Type} : Left H := { results := [], args := [] }

/- WHAT THE LISTED PACKAGE-LEVEL VARIABLES READ AS WHEN THE CALL BEGINS. Each datum BY PROGRAM (the guide's laid-datum.mjs) off the statement by which the dump's own 'gosem.cut.vars' lays the variable. In a bare row this is a premise. The card (YteidgoldnllabaaGreatDoorCards.lean) ties it to the program's text. -/
def laid_math_bits_deBruijn32tab {H : Type} : DataW H := .agg [.lit (.int .u8 0), .lit (.int .u8 1), .lit (.int .u8 28), .lit (.int .u8 2), .lit (.int .u8 29), .lit (.int .u8 14), .lit (.int .u8 24), .lit (.int .u8 3), .lit (.int .u8 30), .lit (.int .u8 22), .lit (.int .u8 20), .lit (.int .u8 15), .lit (.int .u8 25), .lit (.int .u8 17), .lit (.int .u8 4), .lit (.int .u8 8), .lit (.int .u8 31), .lit (.int .u8 27), .lit (.int .u8 13), .lit (.int .u8 23), .lit (.int .u8 21), .lit (.int .u8 19), .lit (.int .u8 16), .lit (.int .u8 7), .lit (.int .u8 26), .lit (.int .u8 12), .lit (.int .u8 18), .lit (.int .u8 6), .lit (.int .u8 11), .lit (.int .u8 5), .lit (.int .u8 10), .lit (.int .u8 9)]

/-- 'flowpipelaw16.ProblemChecks': WHATEVER THE INPUT: true; the input reads as it did. -/
def problemChecksSpec : ChangeSpec := { name := "problemChecks", fn := fun _ => fun
  | [d] => { results := [.lit (.bool true)], args := [d] }
  | _ => none }
def problemChecksRow : OpenClaim := { program := "yteidgoldnllabaagreatdoor", sum := "e91cec72e02848e8a4531b01e3d1924f6c9540d8cd2934e12f9b6e3fe1903130", func := "flowpipe/flowpipelaw16.ProblemChecks", spec := "problemChecks", inPlace := ["internal/bytealg.IndexByteString"], unfollowed := true, recurses := true, named := ["math/bits.deBruijn32tab", "math/bits.overflowError"], loops := true, plainKeys := false, apart := false, laid := [("math/bits.deBruijn32tab", laid_math_bits_deBruijn32tab)] }
def ProblemChecksSaid : Prop := problemChecksRow.holds Tryz.pinned (OpenSpec.ofChange problemChecksSpec)

/-- ITS FALSE NEIGHBOUR: 'it returns false'. Refute it at one input. -/
def problemChecksWrong : ChangeSpec := { name := "problemChecks", fn := fun _ => fun
  | [d] => { results := [.lit (.bool false)], args := [d] }
  | _ => none }
def ProblemChecksWrongFalsely : Prop := problemChecksRow.holds Tryz.pinned (OpenSpec.ofChange problemChecksWrong)

/-- 'flowpipelaw16.ProblemFinds': WHATEVER THE INPUT: true; the input reads as it did. -/
def problemFindsSpec : ChangeSpec := { name := "problemFinds", fn := fun _ => fun
  | [d1, d2] => { results := [.lit (.bool true)], args := [d1, d2] }
  | _ => none }
def problemFindsRow : OpenClaim := { program := "yteidgoldnllabaagreatdoor", sum := "e91cec72e02848e8a4531b01e3d1924f6c9540d8cd2934e12f9b6e3fe1903130", func := "flowpipe/flowpipelaw16.ProblemFinds", spec := "problemFinds", inPlace := ["internal/bytealg.IndexByteString"], unfollowed := true, recurses := true, named := ["math/bits.deBruijn32tab", "math/bits.overflowError"], loops := true, plainKeys := false, apart := false, laid := [("math/bits.deBruijn32tab", laid_math_bits_deBruijn32tab)] }
def ProblemFindsSaid : Prop := problemFindsRow.holds Tryz.pinned (OpenSpec.ofChange problemFindsSpec)

/-- ITS FALSE NEIGHBOUR: 'it returns false'. Refute it at one input. -/
def problemFindsWrong : ChangeSpec := { name := "problemFinds", fn := fun _ => fun
  | [d1, d2] => { results := [.lit (.bool false)], args := [d1, d2] }
  | _ => none }
def ProblemFindsWrongFalsely : Prop := problemFindsRow.holds Tryz.pinned (OpenSpec.ofChange problemFindsWrong)

/-- 'flowpipelaw16.ProblemValues': WHATEVER THE INPUT: true; the input reads as it did. -/
def problemValuesSpec : ChangeSpec := { name := "problemValues", fn := fun _ => fun
  | [d1, d2] => { results := [.lit (.bool true)], args := [d1, d2] }
  | _ => none }
def problemValuesRow : OpenClaim := { program := "yteidgoldnllabaagreatdoor", sum := "e91cec72e02848e8a4531b01e3d1924f6c9540d8cd2934e12f9b6e3fe1903130", func := "flowpipe/flowpipelaw16.ProblemValues", spec := "problemValues", inPlace := ["internal/bytealg.IndexByteString"], unfollowed := true, recurses := true, named := ["math/bits.deBruijn32tab", "math/bits.overflowError"], loops := true, plainKeys := false, apart := false, laid := [("math/bits.deBruijn32tab", laid_math_bits_deBruijn32tab)] }
def ProblemValuesSaid : Prop := problemValuesRow.holds Tryz.pinned (OpenSpec.ofChange problemValuesSpec)

/-- ITS FALSE NEIGHBOUR: 'it returns false'. Refute it at one input. -/
def problemValuesWrong : ChangeSpec := { name := "problemValues", fn := fun _ => fun
  | [d1, d2] => { results := [.lit (.bool false)], args := [d1, d2] }
  | _ => none }
def ProblemValuesWrongFalsely : Prop := problemValuesRow.holds Tryz.pinned (OpenSpec.ofChange problemValuesWrong)

/-- 'flowpipelaw16.ProblemExprs': WHATEVER THE INPUT: true; the input reads as it did. -/
def problemExprsSpec : ChangeSpec := { name := "problemExprs", fn := fun _ => fun
  | [d1, d2] => { results := [.lit (.bool true)], args := [d1, d2] }
  | _ => none }
def problemExprsRow : OpenClaim := { program := "yteidgoldnllabaagreatdoor", sum := "e91cec72e02848e8a4531b01e3d1924f6c9540d8cd2934e12f9b6e3fe1903130", func := "flowpipe/flowpipelaw16.ProblemExprs", spec := "problemExprs", inPlace := ["internal/bytealg.IndexByteString"], unfollowed := true, recurses := true, named := ["math/bits.deBruijn32tab", "math/bits.overflowError"], loops := true, plainKeys := false, apart := false, laid := [("math/bits.deBruijn32tab", laid_math_bits_deBruijn32tab)] }
def ProblemExprsSaid : Prop := problemExprsRow.holds Tryz.pinned (OpenSpec.ofChange problemExprsSpec)

/-- ITS FALSE NEIGHBOUR: 'it returns false'. Refute it at one input. -/
def problemExprsWrong : ChangeSpec := { name := "problemExprs", fn := fun _ => fun
  | [d1, d2] => { results := [.lit (.bool false)], args := [d1, d2] }
  | _ => none }
def ProblemExprsWrongFalsely : Prop := problemExprsRow.holds Tryz.pinned (OpenSpec.ofChange problemExprsWrong)

/-- 'flowpipelaw16.ProblemSystems': WHATEVER THE INPUT: true; the input reads as it did. -/
def problemSystemsSpec : ChangeSpec := { name := "problemSystems", fn := fun _ => fun
  | [d1, d2, d3] => { results := [.lit (.bool true)], args := [d1, d2, d3] }
  | _ => none }
def problemSystemsRow : OpenClaim := { program := "yteidgoldnllabaagreatdoor", sum := "e91cec72e02848e8a4531b01e3d1924f6c9540d8cd2934e12f9b6e3fe1903130", func := "flowpipe/flowpipelaw16.ProblemSystems", spec := "problemSystems", inPlace := ["internal/bytealg.IndexByteString"], unfollowed := true, recurses := true, named := ["math/bits.deBruijn32tab", "math/bits.overflowError"], loops := true, plainKeys := false, apart := false, laid := [("math/bits.deBruijn32tab", laid_math_bits_deBruijn32tab)] }
def ProblemSystemsSaid : Prop := problemSystemsRow.holds Tryz.pinned (OpenSpec.ofChange problemSystemsSpec)

/-- ITS FALSE NEIGHBOUR: 'it returns false'. Refute it at one input. -/
def problemSystemsWrong : ChangeSpec := { name := "problemSystems", fn := fun _ => fun
  | [d1, d2, d3] => { results := [.lit (.bool false)], args := [d1, d2, d3] }
  | _ => none }
def ProblemSystemsWrongFalsely : Prop := problemSystemsRow.holds Tryz.pinned (OpenSpec.ofChange problemSystemsWrong)

/-- 'flowpipelaw16.ProblemFaults': WHATEVER THE INPUT: true; the input reads as it did. -/
def problemFaultsSpec : ChangeSpec := { name := "problemFaults", fn := fun _ => fun
  | [d1, d2] => { results := [.lit (.bool true)], args := [d1, d2] }
  | _ => none }
def problemFaultsRow : OpenClaim := { program := "yteidgoldnllabaagreatdoor", sum := "e91cec72e02848e8a4531b01e3d1924f6c9540d8cd2934e12f9b6e3fe1903130", func := "flowpipe/flowpipelaw16.ProblemFaults", spec := "problemFaults", inPlace := ["internal/bytealg.IndexByteString"], unfollowed := true, recurses := true, named := ["math/bits.deBruijn32tab", "math/bits.overflowError"], loops := true, plainKeys := false, apart := false, laid := [("math/bits.deBruijn32tab", laid_math_bits_deBruijn32tab)] }
def ProblemFaultsSaid : Prop := problemFaultsRow.holds Tryz.pinned (OpenSpec.ofChange problemFaultsSpec)

/-- ITS FALSE NEIGHBOUR: 'it returns false'. Refute it at one input. -/
def problemFaultsWrong : ChangeSpec := { name := "problemFaults", fn := fun _ => fun
  | [d1, d2] => { results := [.lit (.bool false)], args := [d1, d2] }
  | _ => none }
def ProblemFaultsWrongFalsely : Prop := problemFaultsRow.holds Tryz.pinned (OpenSpec.ofChange problemFaultsWrong)

/-- 'flowpipelaw16.ProblemOrder': WHATEVER THE INPUT: true; the input reads as it did. -/
def problemOrderSpec : ChangeSpec := { name := "problemOrder", fn := fun _ => fun
  | [d1, d2, d3] => { results := [.lit (.bool true)], args := [d1, d2, d3] }
  | _ => none }
def problemOrderRow : OpenClaim := { program := "yteidgoldnllabaagreatdoor", sum := "e91cec72e02848e8a4531b01e3d1924f6c9540d8cd2934e12f9b6e3fe1903130", func := "flowpipe/flowpipelaw16.ProblemOrder", spec := "problemOrder", inPlace := ["internal/bytealg.IndexByteString"], unfollowed := true, recurses := true, named := ["math/bits.deBruijn32tab", "math/bits.overflowError"], loops := true, plainKeys := false, apart := false, laid := [("math/bits.deBruijn32tab", laid_math_bits_deBruijn32tab)] }
def ProblemOrderSaid : Prop := problemOrderRow.holds Tryz.pinned (OpenSpec.ofChange problemOrderSpec)

/-- ITS FALSE NEIGHBOUR: 'it returns false'. Refute it at one input. -/
def problemOrderWrong : ChangeSpec := { name := "problemOrder", fn := fun _ => fun
  | [d1, d2, d3] => { results := [.lit (.bool false)], args := [d1, d2, d3] }
  | _ => none }
def ProblemOrderWrongFalsely : Prop := problemOrderRow.holds Tryz.pinned (OpenSpec.ofChange problemOrderWrong)

/-- 'flowpipelaw16.ProblemAccepts': WHATEVER THE INPUT: true; the input reads as it did. -/
def problemAcceptsSpec : ChangeSpec := { name := "problemAccepts", fn := fun _ => fun
  | [d] => { results := [.lit (.bool true)], args := [d] }
  | _ => none }
def problemAcceptsRow : OpenClaim := { program := "yteidgoldnllabaagreatdoor", sum := "e91cec72e02848e8a4531b01e3d1924f6c9540d8cd2934e12f9b6e3fe1903130", func := "flowpipe/flowpipelaw16.ProblemAccepts", spec := "problemAccepts", inPlace := ["internal/bytealg.IndexByteString"], unfollowed := true, recurses := true, named := ["math/bits.deBruijn32tab", "math/bits.overflowError"], plainKeys := false, apart := false, laid := [("math/bits.deBruijn32tab", laid_math_bits_deBruijn32tab)] }
def ProblemAcceptsSaid : Prop := problemAcceptsRow.holds Tryz.pinned (OpenSpec.ofChange problemAcceptsSpec)

/-- ITS FALSE NEIGHBOUR: 'it returns false'. Refute it at one input. -/
def problemAcceptsWrong : ChangeSpec := { name := "problemAccepts", fn := fun _ => fun
  | [d] => { results := [.lit (.bool false)], args := [d] }
  | _ => none }
def ProblemAcceptsWrongFalsely : Prop := problemAcceptsRow.holds Tryz.pinned (OpenSpec.ofChange problemAcceptsWrong)

/-- 'flowpipelaw16.ProblemShares': WHATEVER THE INPUT: true; the input reads as it did. -/
def problemSharesSpec : ChangeSpec := { name := "problemShares", fn := fun _ => fun
  | [d1, d2] => { results := [.lit (.bool true)], args := [d1, d2] }
  | _ => none }
def problemSharesRow : OpenClaim := { program := "yteidgoldnllabaagreatdoor", sum := "e91cec72e02848e8a4531b01e3d1924f6c9540d8cd2934e12f9b6e3fe1903130", func := "flowpipe/flowpipelaw16.ProblemShares", spec := "problemShares", inPlace := ["internal/bytealg.IndexByteString"], unfollowed := true, recurses := true, named := ["math/bits.deBruijn32tab", "math/bits.overflowError"], loops := true, plainKeys := false, apart := false, laid := [("math/bits.deBruijn32tab", laid_math_bits_deBruijn32tab)] }
def ProblemSharesSaid : Prop := problemSharesRow.holds Tryz.pinned (OpenSpec.ofChange problemSharesSpec)

/-- ITS FALSE NEIGHBOUR: 'it returns false'. Refute it at one input. -/
def problemSharesWrong : ChangeSpec := { name := "problemShares", fn := fun _ => fun
  | [d1, d2] => { results := [.lit (.bool false)], args := [d1, d2] }
  | _ => none }
def ProblemSharesWrongFalsely : Prop := problemSharesRow.holds Tryz.pinned (OpenSpec.ofChange problemSharesWrong)

/-- 'flowpipelaw16.ProblemStarts': WHATEVER THE INPUT: true; the input reads as it did. -/
def problemStartsSpec : ChangeSpec := { name := "problemStarts", fn := fun _ => fun
  | [d1, d2] => { results := [.lit (.bool true)], args := [d1, d2] }
  | _ => none }
def problemStartsRow : OpenClaim := { program := "yteidgoldnllabaagreatdoor", sum := "e91cec72e02848e8a4531b01e3d1924f6c9540d8cd2934e12f9b6e3fe1903130", func := "flowpipe/flowpipelaw16.ProblemStarts", spec := "problemStarts", inPlace := ["internal/bytealg.IndexByteString"], unfollowed := true, recurses := true, named := ["math/bits.deBruijn32tab", "math/bits.overflowError"], loops := true, plainKeys := false, apart := false, laid := [("math/bits.deBruijn32tab", laid_math_bits_deBruijn32tab)] }
def ProblemStartsSaid : Prop := problemStartsRow.holds Tryz.pinned (OpenSpec.ofChange problemStartsSpec)

/-- ITS FALSE NEIGHBOUR: 'it returns false'. Refute it at one input. -/
def problemStartsWrong : ChangeSpec := { name := "problemStarts", fn := fun _ => fun
  | [d1, d2] => { results := [.lit (.bool false)], args := [d1, d2] }
  | _ => none }
def ProblemStartsWrongFalsely : Prop := problemStartsRow.holds Tryz.pinned (OpenSpec.ofChange problemStartsWrong)

/- THE SECOND FORM. 'bulk': how many values and letters a reading holds, each counted each time it is reached (what is shared counts as often as it is met; a slice's spare places count too). A statement '..UptoSaid' is the law's where the arguments, and the package variables that the reading takes, are together of bulk at most 1048576: NARROWER than '..Said'. Prove '..Said' where nothing that the law and all that it calls make is longer than what came in: it says more and counts as full. Else prove '..UptoSaid'. A law counts once. -/
mutual
def uptoBulk {H : Type} : DataW H → Nat
  | .lit (.string bytes) => bytes.length + 1
  | .lit _ => 1
  | .nil => 1
  | .ptr d => uptoBulk d + 1
  | .slice elems spare => uptoBulkAll elems + uptoBulkAll spare + 1
  | .agg parts => uptoBulkAll parts + 1
  | .iface _ d => uptoBulk d + 1
  | .map entries => uptoBulkEntries entries + 1
  | .held _ => 1
def uptoBulkAll {H : Type} : List (DataW H) → Nat
  | [] => 0
  | d :: r => uptoBulk d + uptoBulkAll r
def uptoBulkEntries {H : Type} : List (Lit × DataW H) → Nat
  | [] => 0
  | x :: r => uptoBulkEntry x + uptoBulkEntries r
def uptoBulkEntry {H : Type} : Lit × DataW H → Nat
  | (.string bytes, d) => bytes.length + uptoBulk d + 1
  | (_, d) => uptoBulk d + 1
 end
def uptoSmall : (H : Type) → List (DataW H) → Bool := fun _ ds => decide (uptoBulkAll ds ≤ 1048576)
def OpenSpec.upto (s : _root_.Go.ChangeSpec) : _root_.Go.OpenSpec := { _root_.Go.OpenSpec.ofChange s with cond := some uptoSmall }

/-- 'flowpipelaw16.ProblemChecks', WHERE WHAT IT READS IS OF BULK AT MOST 1048576: true; the input reads as it did. -/
def problemChecksUptoRow : OpenClaim := { program := "yteidgoldnllabaagreatdoor", sum := "e91cec72e02848e8a4531b01e3d1924f6c9540d8cd2934e12f9b6e3fe1903130", func := "flowpipe/flowpipelaw16.ProblemChecks", spec := "problemChecks", inPlace := ["internal/bytealg.IndexByteString"], unfollowed := true, recurses := true, named := ["math/bits.deBruijn32tab", "math/bits.overflowError"], loops := true, plainKeys := false, apart := false, laid := [("math/bits.deBruijn32tab", laid_math_bits_deBruijn32tab)], narrowed := true }
def ProblemChecksUptoSaid : Prop := problemChecksUptoRow.holds Tryz.pinned (OpenSpec.upto problemChecksSpec)

/-- 'flowpipelaw16.ProblemFinds', WHERE WHAT IT READS IS OF BULK AT MOST 1048576: true; the input reads as it did. -/
def problemFindsUptoRow : OpenClaim := { program := "yteidgoldnllabaagreatdoor", sum := "e91cec72e02848e8a4531b01e3d1924f6c9540d8cd2934e12f9b6e3fe1903130", func := "flowpipe/flowpipelaw16.ProblemFinds", spec := "problemFinds", inPlace := ["internal/bytealg.IndexByteString"], unfollowed := true, recurses := true, named := ["math/bits.deBruijn32tab", "math/bits.overflowError"], loops := true, plainKeys := false, apart := false, laid := [("math/bits.deBruijn32tab", laid_math_bits_deBruijn32tab)], narrowed := true }
def ProblemFindsUptoSaid : Prop := problemFindsUptoRow.holds Tryz.pinned (OpenSpec.upto problemFindsSpec)

/-- 'flowpipelaw16.ProblemValues', WHERE WHAT IT READS IS OF BULK AT MOST 1048576: true; the input reads as it did. -/
def problemValuesUptoRow : OpenClaim := { program := "yteidgoldnllabaagreatdoor", sum := "e91cec72e02848e8a4531b01e3d1924f6c9540d8cd2934e12f9b6e3fe1903130", func := "flowpipe/flowpipelaw16.ProblemValues", spec := "problemValues", inPlace := ["internal/bytealg.IndexByteString"], unfollowed := true, recurses := true, named := ["math/bits.deBruijn32tab", "math/bits.overflowError"], loops := true, plainKeys := false, apart := false, laid := [("math/bits.deBruijn32tab", laid_math_bits_deBruijn32tab)], narrowed := true }
def ProblemValuesUptoSaid : Prop := problemValuesUptoRow.holds Tryz.pinned (OpenSpec.upto problemValuesSpec)

/-- 'flowpipelaw16.ProblemExprs', WHERE WHAT IT READS IS OF BULK AT MOST 1048576: true; the input reads as it did. -/
def problemExprsUptoRow : OpenClaim := { program := "yteidgoldnllabaagreatdoor", sum := "e91cec72e02848e8a4531b01e3d1924f6c9540d8cd2934e12f9b6e3fe1903130", func := "flowpipe/flowpipelaw16.ProblemExprs", spec := "problemExprs", inPlace := ["internal/bytealg.IndexByteString"], unfollowed := true, recurses := true, named := ["math/bits.deBruijn32tab", "math/bits.overflowError"], loops := true, plainKeys := false, apart := false, laid := [("math/bits.deBruijn32tab", laid_math_bits_deBruijn32tab)], narrowed := true }
def ProblemExprsUptoSaid : Prop := problemExprsUptoRow.holds Tryz.pinned (OpenSpec.upto problemExprsSpec)

/-- 'flowpipelaw16.ProblemSystems', WHERE WHAT IT READS IS OF BULK AT MOST 1048576: true; the input reads as it did. -/
def problemSystemsUptoRow : OpenClaim := { program := "yteidgoldnllabaagreatdoor", sum := "e91cec72e02848e8a4531b01e3d1924f6c9540d8cd2934e12f9b6e3fe1903130", func := "flowpipe/flowpipelaw16.ProblemSystems", spec := "problemSystems", inPlace := ["internal/bytealg.IndexByteString"], unfollowed := true, recurses := true, named := ["math/bits.deBruijn32tab", "math/bits.overflowError"], loops := true, plainKeys := false, apart := false, laid := [("math/bits.deBruijn32tab", laid_math_bits_deBruijn32tab)], narrowed := true }
def ProblemSystemsUptoSaid : Prop := problemSystemsUptoRow.holds Tryz.pinned (OpenSpec.upto problemSystemsSpec)

/-- 'flowpipelaw16.ProblemFaults', WHERE WHAT IT READS IS OF BULK AT MOST 1048576: true; the input reads as it did. -/
def problemFaultsUptoRow : OpenClaim := { program := "yteidgoldnllabaagreatdoor", sum := "e91cec72e02848e8a4531b01e3d1924f6c9540d8cd2934e12f9b6e3fe1903130", func := "flowpipe/flowpipelaw16.ProblemFaults", spec := "problemFaults", inPlace := ["internal/bytealg.IndexByteString"], unfollowed := true, recurses := true, named := ["math/bits.deBruijn32tab", "math/bits.overflowError"], loops := true, plainKeys := false, apart := false, laid := [("math/bits.deBruijn32tab", laid_math_bits_deBruijn32tab)], narrowed := true }
def ProblemFaultsUptoSaid : Prop := problemFaultsUptoRow.holds Tryz.pinned (OpenSpec.upto problemFaultsSpec)

/-- 'flowpipelaw16.ProblemOrder', WHERE WHAT IT READS IS OF BULK AT MOST 1048576: true; the input reads as it did. -/
def problemOrderUptoRow : OpenClaim := { program := "yteidgoldnllabaagreatdoor", sum := "e91cec72e02848e8a4531b01e3d1924f6c9540d8cd2934e12f9b6e3fe1903130", func := "flowpipe/flowpipelaw16.ProblemOrder", spec := "problemOrder", inPlace := ["internal/bytealg.IndexByteString"], unfollowed := true, recurses := true, named := ["math/bits.deBruijn32tab", "math/bits.overflowError"], loops := true, plainKeys := false, apart := false, laid := [("math/bits.deBruijn32tab", laid_math_bits_deBruijn32tab)], narrowed := true }
def ProblemOrderUptoSaid : Prop := problemOrderUptoRow.holds Tryz.pinned (OpenSpec.upto problemOrderSpec)

/-- 'flowpipelaw16.ProblemAccepts', WHERE WHAT IT READS IS OF BULK AT MOST 1048576: true; the input reads as it did. -/
def problemAcceptsUptoRow : OpenClaim := { program := "yteidgoldnllabaagreatdoor", sum := "e91cec72e02848e8a4531b01e3d1924f6c9540d8cd2934e12f9b6e3fe1903130", func := "flowpipe/flowpipelaw16.ProblemAccepts", spec := "problemAccepts", inPlace := ["internal/bytealg.IndexByteString"], unfollowed := true, recurses := true, named := ["math/bits.deBruijn32tab", "math/bits.overflowError"], plainKeys := false, apart := false, laid := [("math/bits.deBruijn32tab", laid_math_bits_deBruijn32tab)], narrowed := true }
def ProblemAcceptsUptoSaid : Prop := problemAcceptsUptoRow.holds Tryz.pinned (OpenSpec.upto problemAcceptsSpec)

/-- 'flowpipelaw16.ProblemShares', WHERE WHAT IT READS IS OF BULK AT MOST 1048576: true; the input reads as it did. -/
def problemSharesUptoRow : OpenClaim := { program := "yteidgoldnllabaagreatdoor", sum := "e91cec72e02848e8a4531b01e3d1924f6c9540d8cd2934e12f9b6e3fe1903130", func := "flowpipe/flowpipelaw16.ProblemShares", spec := "problemShares", inPlace := ["internal/bytealg.IndexByteString"], unfollowed := true, recurses := true, named := ["math/bits.deBruijn32tab", "math/bits.overflowError"], loops := true, plainKeys := false, apart := false, laid := [("math/bits.deBruijn32tab", laid_math_bits_deBruijn32tab)], narrowed := true }
def ProblemSharesUptoSaid : Prop := problemSharesUptoRow.holds Tryz.pinned (OpenSpec.upto problemSharesSpec)

/-- 'flowpipelaw16.ProblemStarts', WHERE WHAT IT READS IS OF BULK AT MOST 1048576: true; the input reads as it did. -/
def problemStartsUptoRow : OpenClaim := { program := "yteidgoldnllabaagreatdoor", sum := "e91cec72e02848e8a4531b01e3d1924f6c9540d8cd2934e12f9b6e3fe1903130", func := "flowpipe/flowpipelaw16.ProblemStarts", spec := "problemStarts", inPlace := ["internal/bytealg.IndexByteString"], unfollowed := true, recurses := true, named := ["math/bits.deBruijn32tab", "math/bits.overflowError"], loops := true, plainKeys := false, apart := false, laid := [("math/bits.deBruijn32tab", laid_math_bits_deBruijn32tab)], narrowed := true }
def ProblemStartsUptoSaid : Prop := problemStartsUptoRow.holds Tryz.pinned (OpenSpec.upto problemStartsSpec)

end Rows
end Go.Proofs.YteidgoldnllabaaGreatDoor
