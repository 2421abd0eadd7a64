/-
  NARROWER THAN 'FOR EVERY INPUT', by the rows' own cells (each row's printed sentence says how): GraphLoad: laid · GraphCycle: laid · GraphLoads: laid · GraphOrdered: laid · GraphCycles: laid · GraphReads: laid · GraphInverse: laid · GraphBuilds: laid.
  DERIVED. THE GIVEN ROWS OF THIS SEAT. 8 by the template 'for every input the law returns true; each argument reads behind the call as it read before'; 0 by the template 'total and deterministic' (their statements: YtddlohbhchjjhaaGreatDoorTotals.lean).
  GIVEN WITH THE SEED: the statements are not yours to turn. If you find one false, say at which input.
  Laid BY PROGRAM, IN A SANDBOX (cutbox-rows.mjs): the forced cells as the released guide's own fill.sh prints them over the translation 6ad3ada8d99c61e8… (all of the seat's roots in one cut). By AI agents, Wed Nov 11 2026. No macro, syntax, notation, axiom, sorry.
-/
import Derived.Test.YtddlohbhchjjhaaGreatDoorChecked
import GoSem.PinnedTables
import GoSem.Claim
import GoSem.ClaimJoined
import GoSem.ClaimMapViews
import Derived.JoinedTies
import Derived.KernelRfl
namespace Go.Proofs.YtddlohbhchjjhaaGreatDoor
/- THE CELL 'sum', in the pinned program and in every row, IS THE sha256 OF THE DUMP (.gsa) THAT YtddlohbhchjjhaaGreatDoorProg.lean LOADS. Nothing in Lean hashes anything: it is a label: what it is worth is what the hold of that sum in a sandbox is worth. -/
noncomputable def Tryz.pinned : Pinned := { name := "ytddlohbhchjjhaagreatdoor", sum := "6ad3ada8d99c61e89640d3d7599aa0d6f67f0df7fa2edcc7348bafde065da89b", checked := Tryz.checked }
namespace Rows
def none {H : Type} : Left H := { results := [], args := [] }

/- WHAT THE LISTED PACKAGE-LEVEL VARIABLES READ AS WHEN THE CALL BEGINS. Each datum BY PROGRAM (the guide's laid-datum.mjs) off the statement by which the dump's own 'gosem.cut.vars' lays the variable. In a bare row this is a premise. The card (YtddlohbhchjjhaaGreatDoorCards.lean) ties it to the program's text. -/
def laid_unicode_utf8_acceptRanges {H : Type} : DataW H := .agg [.agg [.lit (.int .u8 128), .lit (.int .u8 191)], .agg [.lit (.int .u8 160), .lit (.int .u8 191)], .agg [.lit (.int .u8 128), .lit (.int .u8 159)], .agg [.lit (.int .u8 144), .lit (.int .u8 191)], .agg [.lit (.int .u8 128), .lit (.int .u8 143)], .agg [.lit (.int .u8 0), .lit (.int .u8 0)], .agg [.lit (.int .u8 0), .lit (.int .u8 0)], .agg [.lit (.int .u8 0), .lit (.int .u8 0)], .agg [.lit (.int .u8 0), .lit (.int .u8 0)], .agg [.lit (.int .u8 0), .lit (.int .u8 0)], .agg [.lit (.int .u8 0), .lit (.int .u8 0)], .agg [.lit (.int .u8 0), .lit (.int .u8 0)], .agg [.lit (.int .u8 0), .lit (.int .u8 0)], .agg [.lit (.int .u8 0), .lit (.int .u8 0)], .agg [.lit (.int .u8 0), .lit (.int .u8 0)], .agg [.lit (.int .u8 0), .lit (.int .u8 0)]]
/-- One of Go's own tables, pinned by name: the form's constant. -/
def laid_unicode_utf8_first : DataW Unit := Go.Pinned.utf8First

/-- 'cordwoodlaw39.GraphLoad': WHATEVER THE INPUT: true; the input reads as it did. -/
def graphLoadSpec : ChangeSpec := { name := "graphLoad", fn := fun _ => fun
  | [d] => { results := [.lit (.bool true)], args := [d] }
  | _ => none }
def graphLoadRow : OpenClaim := { program := "ytddlohbhchjjhaagreatdoor", sum := "6ad3ada8d99c61e89640d3d7599aa0d6f67f0df7fa2edcc7348bafde065da89b", func := "cordwood/cordwoodlaw39.GraphLoad", spec := "graphLoad", inPlace := ["internal/bytealg.IndexByteString", "internal/bytealg.IndexString", "internal/abi.NoEscape", "internal/bytealg.abigen_runtime_cmpstring"], unfollowed := true, recurses := true, named := ["unicode/utf8.first", "unicode/utf8.acceptRanges", "internal/bytealg.MaxLen"], apart := false, laid := [("unicode/utf8.acceptRanges", laid_unicode_utf8_acceptRanges), ("unicode/utf8.first", laid_unicode_utf8_first)] }
def GraphLoadSaid : Prop := graphLoadRow.holds Tryz.pinned (OpenSpec.ofChange graphLoadSpec)

/-- ITS FALSE NEIGHBOUR: 'it returns false'. Refute it at one input. -/
def graphLoadWrong : ChangeSpec := { name := "graphLoad", fn := fun _ => fun
  | [d] => { results := [.lit (.bool false)], args := [d] }
  | _ => none }
def GraphLoadWrongFalsely : Prop := graphLoadRow.holds Tryz.pinned (OpenSpec.ofChange graphLoadWrong)

/-- 'cordwoodlaw39.GraphCycle': WHATEVER THE INPUT: true; the input reads as it did. -/
def graphCycleSpec : ChangeSpec := { name := "graphCycle", fn := fun _ => fun
  | [d1, d2] => { results := [.lit (.bool true)], args := [d1, d2] }
  | _ => none }
def graphCycleRow : OpenClaim := { program := "ytddlohbhchjjhaagreatdoor", sum := "6ad3ada8d99c61e89640d3d7599aa0d6f67f0df7fa2edcc7348bafde065da89b", func := "cordwood/cordwoodlaw39.GraphCycle", spec := "graphCycle", inPlace := ["internal/bytealg.IndexByteString", "internal/bytealg.IndexString", "internal/abi.NoEscape", "internal/bytealg.abigen_runtime_cmpstring"], unfollowed := true, recurses := true, named := ["unicode/utf8.first", "unicode/utf8.acceptRanges", "internal/bytealg.MaxLen"], apart := false, laid := [("unicode/utf8.acceptRanges", laid_unicode_utf8_acceptRanges), ("unicode/utf8.first", laid_unicode_utf8_first)] }
def GraphCycleSaid : Prop := graphCycleRow.holds Tryz.pinned (OpenSpec.ofChange graphCycleSpec)

/-- ITS FALSE NEIGHBOUR: 'it returns false'. Refute it at one input. -/
def graphCycleWrong : ChangeSpec := { name := "graphCycle", fn := fun _ => fun
  | [d1, d2] => { results := [.lit (.bool false)], args := [d1, d2] }
  | _ => none }
def GraphCycleWrongFalsely : Prop := graphCycleRow.holds Tryz.pinned (OpenSpec.ofChange graphCycleWrong)

/-- 'cordwoodlaw39.GraphLoads': WHATEVER THE INPUT: true; the input reads as it did. -/
def graphLoadsSpec : ChangeSpec := { name := "graphLoads", fn := fun _ => fun
  | [d] => { results := [.lit (.bool true)], args := [d] }
  | _ => none }
def graphLoadsRow : OpenClaim := { program := "ytddlohbhchjjhaagreatdoor", sum := "6ad3ada8d99c61e89640d3d7599aa0d6f67f0df7fa2edcc7348bafde065da89b", func := "cordwood/cordwoodlaw39.GraphLoads", spec := "graphLoads", inPlace := ["internal/bytealg.IndexByteString", "internal/bytealg.IndexString", "internal/abi.NoEscape", "internal/bytealg.abigen_runtime_cmpstring"], unfollowed := true, recurses := true, named := ["unicode/utf8.first", "unicode/utf8.acceptRanges", "internal/bytealg.MaxLen"], apart := false, laid := [("unicode/utf8.acceptRanges", laid_unicode_utf8_acceptRanges), ("unicode/utf8.first", laid_unicode_utf8_first)] }
def GraphLoadsSaid : Prop := graphLoadsRow.holds Tryz.pinned (OpenSpec.ofChange graphLoadsSpec)

/-- ITS FALSE NEIGHBOUR: 'it returns false'. Refute it at one input. -/
def graphLoadsWrong : ChangeSpec := { name := "graphLoads", fn := fun _ => fun
  | [d] => { results := [.lit (.bool false)], args := [d] }
  | _ => none }
def GraphLoadsWrongFalsely : Prop := graphLoadsRow.holds Tryz.pinned (OpenSpec.ofChange graphLoadsWrong)

/-- 'cordwoodlaw39.GraphOrdered': WHATEVER THE INPUT: true; the input reads as it did. -/
def graphOrderedSpec : ChangeSpec := { name := "graphOrdered", fn := fun _ => fun
  | [d] => { results := [.lit (.bool true)], args := [d] }
  | _ => none }
def graphOrderedRow : OpenClaim := { program := "ytddlohbhchjjhaagreatdoor", sum := "6ad3ada8d99c61e89640d3d7599aa0d6f67f0df7fa2edcc7348bafde065da89b", func := "cordwood/cordwoodlaw39.GraphOrdered", spec := "graphOrdered", inPlace := ["internal/bytealg.IndexByteString", "internal/bytealg.IndexString", "internal/abi.NoEscape", "internal/bytealg.abigen_runtime_cmpstring"], unfollowed := true, recurses := true, named := ["unicode/utf8.first", "unicode/utf8.acceptRanges", "internal/bytealg.MaxLen"], apart := false, laid := [("unicode/utf8.acceptRanges", laid_unicode_utf8_acceptRanges), ("unicode/utf8.first", laid_unicode_utf8_first)] }
def GraphOrderedSaid : Prop := graphOrderedRow.holds Tryz.pinned (OpenSpec.ofChange graphOrderedSpec)

/-- ITS FALSE NEIGHBOUR: 'it returns false'. Refute it at one input. -/
def graphOrderedWrong : ChangeSpec := { name := "graphOrdered", fn := fun _ => fun
  | [d] => { results := [.lit (.bool false)], args := [d] }
  | _ => none }
def GraphOrderedWrongFalsely : Prop := graphOrderedRow.holds Tryz.pinned (OpenSpec.ofChange graphOrderedWrong)

/-- 'cordwoodlaw39.GraphCycles': WHATEVER THE INPUT: true; the input reads as it did. -/
def graphCyclesSpec : ChangeSpec := { name := "graphCycles", fn := fun _ => fun
  | [d] => { results := [.lit (.bool true)], args := [d] }
  | _ => none }
def graphCyclesRow : OpenClaim := { program := "ytddlohbhchjjhaagreatdoor", sum := "6ad3ada8d99c61e89640d3d7599aa0d6f67f0df7fa2edcc7348bafde065da89b", func := "cordwood/cordwoodlaw39.GraphCycles", spec := "graphCycles", inPlace := ["internal/bytealg.IndexByteString", "internal/bytealg.IndexString", "internal/abi.NoEscape", "internal/bytealg.abigen_runtime_cmpstring"], unfollowed := true, recurses := true, named := ["unicode/utf8.first", "unicode/utf8.acceptRanges", "internal/bytealg.MaxLen"], apart := false, laid := [("unicode/utf8.acceptRanges", laid_unicode_utf8_acceptRanges), ("unicode/utf8.first", laid_unicode_utf8_first)] }
def GraphCyclesSaid : Prop := graphCyclesRow.holds Tryz.pinned (OpenSpec.ofChange graphCyclesSpec)

/-- ITS FALSE NEIGHBOUR: 'it returns false'. Refute it at one input. -/
def graphCyclesWrong : ChangeSpec := { name := "graphCycles", fn := fun _ => fun
  | [d] => { results := [.lit (.bool false)], args := [d] }
  | _ => none }
def GraphCyclesWrongFalsely : Prop := graphCyclesRow.holds Tryz.pinned (OpenSpec.ofChange graphCyclesWrong)

/-- 'cordwoodlaw39.GraphReads': WHATEVER THE INPUT: true; the input reads as it did. -/
def graphReadsSpec : ChangeSpec := { name := "graphReads", fn := fun _ => fun
  | [d1, d2, d3] => { results := [.lit (.bool true)], args := [d1, d2, d3] }
  | _ => none }
def graphReadsRow : OpenClaim := { program := "ytddlohbhchjjhaagreatdoor", sum := "6ad3ada8d99c61e89640d3d7599aa0d6f67f0df7fa2edcc7348bafde065da89b", func := "cordwood/cordwoodlaw39.GraphReads", spec := "graphReads", inPlace := ["internal/bytealg.IndexByteString", "internal/bytealg.IndexString", "internal/abi.NoEscape", "internal/bytealg.abigen_runtime_cmpstring"], unfollowed := true, recurses := true, named := ["unicode/utf8.first", "unicode/utf8.acceptRanges", "internal/bytealg.MaxLen"], apart := false, laid := [("unicode/utf8.acceptRanges", laid_unicode_utf8_acceptRanges), ("unicode/utf8.first", laid_unicode_utf8_first)] }
def GraphReadsSaid : Prop := graphReadsRow.holds Tryz.pinned (OpenSpec.ofChange graphReadsSpec)

/-- ITS FALSE NEIGHBOUR: 'it returns false'. Refute it at one input. -/
def graphReadsWrong : ChangeSpec := { name := "graphReads", fn := fun _ => fun
  | [d1, d2, d3] => { results := [.lit (.bool false)], args := [d1, d2, d3] }
  | _ => none }
def GraphReadsWrongFalsely : Prop := graphReadsRow.holds Tryz.pinned (OpenSpec.ofChange graphReadsWrong)

/-- 'cordwoodlaw39.GraphInverse': WHATEVER THE INPUT: true; the input reads as it did. -/
def graphInverseSpec : ChangeSpec := { name := "graphInverse", fn := fun _ => fun
  | [d] => { results := [.lit (.bool true)], args := [d] }
  | _ => none }
def graphInverseRow : OpenClaim := { program := "ytddlohbhchjjhaagreatdoor", sum := "6ad3ada8d99c61e89640d3d7599aa0d6f67f0df7fa2edcc7348bafde065da89b", func := "cordwood/cordwoodlaw39.GraphInverse", spec := "graphInverse", inPlace := ["internal/bytealg.IndexByteString", "internal/bytealg.IndexString", "internal/abi.NoEscape", "internal/bytealg.abigen_runtime_cmpstring"], unfollowed := true, recurses := true, named := ["unicode/utf8.first", "unicode/utf8.acceptRanges", "internal/bytealg.MaxLen"], apart := false, laid := [("unicode/utf8.acceptRanges", laid_unicode_utf8_acceptRanges), ("unicode/utf8.first", laid_unicode_utf8_first)] }
def GraphInverseSaid : Prop := graphInverseRow.holds Tryz.pinned (OpenSpec.ofChange graphInverseSpec)

/-- ITS FALSE NEIGHBOUR: 'it returns false'. Refute it at one input. -/
def graphInverseWrong : ChangeSpec := { name := "graphInverse", fn := fun _ => fun
  | [d] => { results := [.lit (.bool false)], args := [d] }
  | _ => none }
def GraphInverseWrongFalsely : Prop := graphInverseRow.holds Tryz.pinned (OpenSpec.ofChange graphInverseWrong)

/-- 'cordwoodlaw39.GraphBuilds': WHATEVER THE INPUT: true; the input reads as it did. -/
def graphBuildsSpec : ChangeSpec := { name := "graphBuilds", fn := fun _ => fun
  | [d] => { results := [.lit (.bool true)], args := [d] }
  | _ => none }
def graphBuildsRow : OpenClaim := { program := "ytddlohbhchjjhaagreatdoor", sum := "6ad3ada8d99c61e89640d3d7599aa0d6f67f0df7fa2edcc7348bafde065da89b", func := "cordwood/cordwoodlaw39.GraphBuilds", spec := "graphBuilds", inPlace := ["internal/bytealg.IndexByteString", "internal/bytealg.IndexString", "internal/abi.NoEscape", "internal/bytealg.abigen_runtime_cmpstring", "internal/bytealg.MakeNoZero"], unfollowed := true, recurses := true, named := ["unicode/utf8.first", "unicode/utf8.acceptRanges", "internal/bytealg.MaxLen"], apart := false, laid := [("unicode/utf8.acceptRanges", laid_unicode_utf8_acceptRanges), ("unicode/utf8.first", laid_unicode_utf8_first)] }
def GraphBuildsSaid : Prop := graphBuildsRow.holds Tryz.pinned (OpenSpec.ofChange graphBuildsSpec)

/-- ITS FALSE NEIGHBOUR: 'it returns false'. Refute it at one input. -/
def graphBuildsWrong : ChangeSpec := { name := "graphBuilds", fn := fun _ => fun
  | [d] => { results := [.lit (.bool false)], args := [d] }
  | _ => none }
def GraphBuildsWrongFalsely : Prop := graphBuildsRow.holds Tryz.pinned (OpenSpec.ofChange graphBuildsWrong)

/- THE SECOND FORM. 'bulk': how many values and letters a reading holds, each counted each time it is reached (what is shared counts as often as it is met; a slice's spare places count too). A statement '..UptoSaid' is the law's where the arguments, and the package variables that the reading takes, are together of bulk at most 1048576: NARROWER than '..Said'. Prove '..Said' where nothing that the law and all that it calls make is longer than what came in: it says more and counts as full. Else prove '..UptoSaid'. A law counts once. -/
mutual
def uptoBulk {H : Type} : DataW H → Nat
  | .lit (.string bytes) => bytes.length + 1
  | .lit _ => 1
  | .nil => 1
  | .ptr d => uptoBulk d + 1
  | .slice elems spare => uptoBulkAll elems + uptoBulkAll spare + 1
  | .agg parts => uptoBulkAll parts + 1
  | .iface _ d => uptoBulk d + 1
  | .map entries => uptoBulkEntries entries + 1
  | .held _ => 1
def uptoBulkAll {H : Type} : List (DataW H) → Nat
  | [] => 0
  | d :: r => uptoBulk d + uptoBulkAll r
def uptoBulkEntries {H : Type} : List (Lit × DataW H) → Nat
  | [] => 0
  | x :: r => uptoBulkEntry x + uptoBulkEntries r
def uptoBulkEntry {H : Type} : Lit × DataW H → Nat
  | (.string bytes, d) => bytes.length + uptoBulk d + 1
  | (_, d) => uptoBulk d + 1
 end
def uptoSmall : (H : Type) → List (DataW H) → Bool := fun _ ds => decide (uptoBulkAll ds ≤ 1048576)
def OpenSpec.upto (s : _root_.Go.ChangeSpec) : _root_.Go.OpenSpec := { _root_.Go.OpenSpec.ofChange s with cond := some uptoSmall }

/-- 'cordwoodlaw39.GraphLoad', WHERE WHAT IT READS IS OF BULK AT MOST 1048576: true; the input reads as it did. -/
def graphLoadUptoRow : OpenClaim := { program := "ytddlohbhchjjhaagreatdoor", sum := "6ad3ada8d99c61e89640d3d7599aa0d6f67f0df7fa2edcc7348bafde065da89b", func := "cordwood/cordwoodlaw39.GraphLoad", spec := "graphLoad", inPlace := ["internal/bytealg.IndexByteString", "internal/bytealg.IndexString", "internal/abi.NoEscape", "internal/bytealg.abigen_runtime_cmpstring"], unfollowed := true, recurses := true, named := ["unicode/utf8.first", "unicode/utf8.acceptRanges", "internal/bytealg.MaxLen"], apart := false, laid := [("unicode/utf8.acceptRanges", laid_unicode_utf8_acceptRanges), ("unicode/utf8.first", laid_unicode_utf8_first)], narrowed := true }
def GraphLoadUptoSaid : Prop := graphLoadUptoRow.holds Tryz.pinned (OpenSpec.upto graphLoadSpec)

/-- 'cordwoodlaw39.GraphCycle', WHERE WHAT IT READS IS OF BULK AT MOST 1048576: true; the input reads as it did. -/
def graphCycleUptoRow : OpenClaim := { program := "ytddlohbhchjjhaagreatdoor", sum := "6ad3ada8d99c61e89640d3d7599aa0d6f67f0df7fa2edcc7348bafde065da89b", func := "cordwood/cordwoodlaw39.GraphCycle", spec := "graphCycle", inPlace := ["internal/bytealg.IndexByteString", "internal/bytealg.IndexString", "internal/abi.NoEscape", "internal/bytealg.abigen_runtime_cmpstring"], unfollowed := true, recurses := true, named := ["unicode/utf8.first", "unicode/utf8.acceptRanges", "internal/bytealg.MaxLen"], apart := false, laid := [("unicode/utf8.acceptRanges", laid_unicode_utf8_acceptRanges), ("unicode/utf8.first", laid_unicode_utf8_first)], narrowed := true }
def GraphCycleUptoSaid : Prop := graphCycleUptoRow.holds Tryz.pinned (OpenSpec.upto graphCycleSpec)

/-- 'cordwoodlaw39.GraphLoads', WHERE WHAT IT READS IS OF BULK AT MOST 1048576: true; the input reads as it did. -/
def graphLoadsUptoRow : OpenClaim := { program := "ytddlohbhchjjhaagreatdoor", sum := "6ad3ada8d99c61e89640d3d7599aa0d6f67f0df7fa2edcc7348bafde065da89b", func := "cordwood/cordwoodlaw39.GraphLoads", spec := "graphLoads", inPlace := ["internal/bytealg.IndexByteString", "internal/bytealg.IndexString", "internal/abi.NoEscape", "internal/bytealg.abigen_runtime_cmpstring"], unfollowed := true, recurses := true, named := ["unicode/utf8.first", "unicode/utf8.acceptRanges", "internal/bytealg.MaxLen"], apart := false, laid := [("unicode/utf8.acceptRanges", laid_unicode_utf8_acceptRanges), ("unicode/utf8.first", laid_unicode_utf8_first)], narrowed := true }
def GraphLoadsUptoSaid : Prop := graphLoadsUptoRow.holds Tryz.pinned (OpenSpec.upto graphLoadsSpec)

/-- 'cordwoodlaw39.GraphOrdered', WHERE WHAT IT READS IS OF BULK AT MOST 1048576: true; the input reads as it did. -/
def graphOrderedUptoRow : OpenClaim := { program := "ytddlohbhchjjhaagreatdoor", sum := "6ad3ada8d99c61e89640d3d7599aa0d6f67f0df7fa2edcc7348bafde065da89b", func := "cordwood/cordwoodlaw39.GraphOrdered", spec := "graphOrdered", inPlace := ["internal/bytealg.IndexByteString", "internal/bytealg.IndexString", "internal/abi.NoEscape", "internal/bytealg.abigen_runtime_cmpstring"], unfollowed := true, recurses := true, named := ["unicode/utf8.first", "unicode/utf8.acceptRanges", "internal/bytealg.MaxLen"], apart := false, laid := [("unicode/utf8.acceptRanges", laid_unicode_utf8_acceptRanges), ("unicode/utf8.first", laid_unicode_utf8_first)], narrowed := true }
def GraphOrderedUptoSaid : Prop := graphOrderedUptoRow.holds Tryz.pinned (OpenSpec.upto graphOrderedSpec)

/-- 'cordwoodlaw39.GraphCycles', WHERE WHAT IT READS IS OF BULK AT MOST 1048576: true; the input reads as it did. -/
def graphCyclesUptoRow : OpenClaim := { program := "ytddlohbhchjjhaagreatdoor", sum := "6ad3ada8d99c61e89640d3d7599aa0d6f67f0df7fa2edcc7348bafde065da89b", func := "cordwood/cordwoodlaw39.GraphCycles", spec := "graphCycles", inPlace := ["internal/bytealg.IndexByteString", "internal/bytealg.IndexString", "internal/abi.NoEscape", "internal/bytealg.abigen_runtime_cmpstring"], unfollowed := true, recurses := true, named := ["unicode/utf8.first", "unicode/utf8.acceptRanges", "internal/bytealg.MaxLen"], apart := false, laid := [("unicode/utf8.acceptRanges", laid_unicode_utf8_acceptRanges), ("unicode/utf8.first", laid_unicode_utf8_first)], narrowed := true }
def GraphCyclesUptoSaid : Prop := graphCyclesUptoRow.holds Tryz.pinned (OpenSpec.upto graphCyclesSpec)

/-- 'cordwoodlaw39.GraphReads', WHERE WHAT IT READS IS OF BULK AT MOST 1048576: true; the input reads as it did. -/
def graphReadsUptoRow : OpenClaim := { program := "ytddlohbhchjjhaagreatdoor", sum := "6ad3ada8d99c61e89640d3d7599aa0d6f67f0df7fa2edcc7348bafde065da89b", func := "cordwood/cordwoodlaw39.GraphReads", spec := "graphReads", inPlace := ["internal/bytealg.IndexByteString", "internal/bytealg.IndexString", "internal/abi.NoEscape", "internal/bytealg.abigen_runtime_cmpstring"], unfollowed := true, recurses := true, named := ["unicode/utf8.first", "unicode/utf8.acceptRanges", "internal/bytealg.MaxLen"], apart := false, laid := [("unicode/utf8.acceptRanges", laid_unicode_utf8_acceptRanges), ("unicode/utf8.first", laid_unicode_utf8_first)], narrowed := true }
def GraphReadsUptoSaid : Prop := graphReadsUptoRow.holds Tryz.pinned (OpenSpec.upto graphReadsSpec)

/-- 'cordwoodlaw39.GraphInverse', WHERE WHAT IT READS IS OF BULK AT MOST 1048576: true; the input reads as it did. -/
def graphInverseUptoRow : OpenClaim := { program := "ytddlohbhchjjhaagreatdoor", sum := "6ad3ada8d99c61e89640d3d7599aa0d6f67f0df7fa2edcc7348bafde065da89b", func := "cordwood/cordwoodlaw39.GraphInverse", spec := "graphInverse", inPlace := ["internal/bytealg.IndexByteString", "internal/bytealg.IndexString", "internal/abi.NoEscape", "internal/bytealg.abigen_runtime_cmpstring"], unfollowed := true, recurses := true, named := ["unicode/utf8.first", "unicode/utf8.acceptRanges", "internal/bytealg.MaxLen"], apart := false, laid := [("unicode/utf8.acceptRanges", laid_unicode_utf8_acceptRanges), ("unicode/utf8.first", laid_unicode_utf8_first)], narrowed := true }
def GraphInverseUptoSaid : Prop := graphInverseUptoRow.holds Tryz.pinned (OpenSpec.upto graphInverseSpec)

/-- 'cordwoodlaw39.GraphBuilds', WHERE WHAT IT READS IS OF BULK AT MOST 1048576: true; the input reads as it did. -/
def graphBuildsUptoRow : OpenClaim := { program := "ytddlohbhchjjhaagreatdoor", sum := "6ad3ada8d99c61e89640d3d7599aa0d6f67f0df7fa2edcc7348bafde065da89b", func := "cordwood/cordwoodlaw39.GraphBuilds", spec := "graphBuilds", inPlace := ["internal/bytealg.IndexByteString", "internal/bytealg.IndexString", "internal/abi.NoEscape", "internal/bytealg.abigen_runtime_cmpstring", "internal/bytealg.MakeNoZero"], unfollowed := true, recurses := true, named := ["unicode/utf8.first", "unicode/utf8.acceptRanges", "internal/bytealg.MaxLen"], apart := false, laid := [("unicode/utf8.acceptRanges", laid_unicode_utf8_acceptRanges), ("unicode/utf8.first", laid_unicode_utf8_first)], narrowed := true }
def GraphBuildsUptoSaid : Prop := graphBuildsUptoRow.holds Tryz.pinned (OpenSpec.upto graphBuildsSpec)

end Rows
end Go.Proofs.YtddlohbhchjjhaaGreatDoor
