/-
  NARROWER THAN 'FOR EVERY INPUT', by the rows' own cells (each row's printed sentence says how): TreeStore: laid · TreeSharing: laid · TreeRoundTrip: laid · TreeEdits: laid · TreeOneFile: laid · TreeDigests: laid · TreeReads: laid · TreeLists: laid · TreePatch: laid.
  DERIVED. THE GIVEN ROWS OF THIS SEAT. 9 by the template 'for every input the law returns true; each argument reads behind the call as it read before'; 0 by the template 'total and deterministic' (their statements: YtmdhlkkekidknaaGreatDoorTotals.lean).
  GIVEN WITH THE SEED: the statements are not yours to turn. If you find one false, say at which input.
  Laid BY PROGRAM, IN A SANDBOX (cutbox-rows.mjs): the forced cells as the released guide's own fill.sh prints them over the translation 958dc3573cc07be1… (all of the seat's roots in one cut). By AI agents, Wed Nov 11 2026. No macro, syntax, notation, axiom, sorry.
-/
import Derived.Test.YtmdhlkkekidknaaGreatDoorChecked
import GoSem.PinnedTables
import GoSem.Claim
import GoSem.ClaimJoined
import GoSem.ClaimMapViews
import Derived.JoinedTies
import Derived.KernelRfl
namespace Go.Proofs.YtmdhlkkekidknaaGreatDoor
/- THE CELL 'sum', in the pinned program and in every row, IS THE sha256 OF THE DUMP (.gsa) THAT YtmdhlkkekidknaaGreatDoorProg.lean LOADS. Nothing in Lean hashes anything: it is a label: what it is worth is what the hold of that sum in a sandbox is worth. -/
noncomputable def Tryz.pinned : Pinned := { name := "ytmdhlkkekidknaagreatdoor", sum := "958dc3573cc07be152c01d443dafc49324ec13807103aee01ed34c8aee015bc6", checked := Tryz.checked }
namespace Rows
def none {H : Type} : Left H := { results := [], args := [] }

/- WHAT THE LISTED PACKAGE-LEVEL VARIABLES READ AS WHEN THE CALL BEGINS. Each datum BY PROGRAM (the guide's laid-datum.mjs) off the statement by which the dump's own 'gosem.cut.vars' lays the variable. In a bare row this is a premise. The card (YtmdhlkkekidknaaGreatDoorCards.lean) ties it to the program's text. -/
def laid_unicode_utf8_acceptRanges {H : Type} : DataW H := .agg [.agg [.lit (.int .u8 128), .lit (.int .u8 191)], .agg [.lit (.int .u8 160), .lit (.int .u8 191)], .agg [.lit (.int .u8 128), .lit (.int .u8 159)], .agg [.lit (.int .u8 144), .lit (.int .u8 191)], .agg [.lit (.int .u8 128), .lit (.int .u8 143)], .agg [.lit (.int .u8 0), .lit (.int .u8 0)], .agg [.lit (.int .u8 0), .lit (.int .u8 0)], .agg [.lit (.int .u8 0), .lit (.int .u8 0)], .agg [.lit (.int .u8 0), .lit (.int .u8 0)], .agg [.lit (.int .u8 0), .lit (.int .u8 0)], .agg [.lit (.int .u8 0), .lit (.int .u8 0)], .agg [.lit (.int .u8 0), .lit (.int .u8 0)], .agg [.lit (.int .u8 0), .lit (.int .u8 0)], .agg [.lit (.int .u8 0), .lit (.int .u8 0)], .agg [.lit (.int .u8 0), .lit (.int .u8 0)], .agg [.lit (.int .u8 0), .lit (.int .u8 0)]]
/-- One of Go's own tables, pinned by name: the form's constant. -/
def laid_unicode_utf8_first : DataW Unit := Go.Pinned.utf8First

/-- 'cordwoodlaw09.TreeStore': WHATEVER THE INPUT: true; the input reads as it did. -/
def treeStoreSpec : ChangeSpec := { name := "treeStore", fn := fun _ => fun
  | [d1, d2] => { results := [.lit (.bool true)], args := [d1, d2] }
  | _ => none }
def treeStoreRow : OpenClaim := { program := "ytmdhlkkekidknaagreatdoor", sum := "958dc3573cc07be152c01d443dafc49324ec13807103aee01ed34c8aee015bc6", func := "cordwood/cordwoodlaw09.TreeStore", spec := "treeStore", inPlace := ["internal/bytealg.IndexByteString", "internal/bytealg.IndexString", "internal/abi.NoEscape", "internal/bytealg.abigen_runtime_cmpstring", "slices.overlaps[cordwood/api.File]", "internal/bytealg.CountString"], unfollowed := true, recurses := true, named := ["unicode/utf8.first", "unicode/utf8.acceptRanges", "internal/bytealg.MaxLen"], apart := false, laid := [("unicode/utf8.acceptRanges", laid_unicode_utf8_acceptRanges), ("unicode/utf8.first", laid_unicode_utf8_first)] }
def TreeStoreSaid : Prop := treeStoreRow.holds Tryz.pinned (OpenSpec.ofChange treeStoreSpec)

/-- ITS FALSE NEIGHBOUR: 'it returns false'. Refute it at one input. -/
def treeStoreWrong : ChangeSpec := { name := "treeStore", fn := fun _ => fun
  | [d1, d2] => { results := [.lit (.bool false)], args := [d1, d2] }
  | _ => none }
def TreeStoreWrongFalsely : Prop := treeStoreRow.holds Tryz.pinned (OpenSpec.ofChange treeStoreWrong)

/-- 'cordwoodlaw09.TreeSharing': WHATEVER THE INPUT: true; the input reads as it did. -/
def treeSharingSpec : ChangeSpec := { name := "treeSharing", fn := fun _ => fun
  | [d1, d2, d3] => { results := [.lit (.bool true)], args := [d1, d2, d3] }
  | _ => none }
def treeSharingRow : OpenClaim := { program := "ytmdhlkkekidknaagreatdoor", sum := "958dc3573cc07be152c01d443dafc49324ec13807103aee01ed34c8aee015bc6", func := "cordwood/cordwoodlaw09.TreeSharing", spec := "treeSharing", inPlace := ["internal/bytealg.IndexByteString", "internal/bytealg.IndexString", "internal/abi.NoEscape", "internal/bytealg.abigen_runtime_cmpstring", "slices.overlaps[cordwood/api.File]", "internal/bytealg.CountString"], unfollowed := true, recurses := true, named := ["unicode/utf8.first", "unicode/utf8.acceptRanges", "internal/bytealg.MaxLen"], apart := false, laid := [("unicode/utf8.acceptRanges", laid_unicode_utf8_acceptRanges), ("unicode/utf8.first", laid_unicode_utf8_first)] }
def TreeSharingSaid : Prop := treeSharingRow.holds Tryz.pinned (OpenSpec.ofChange treeSharingSpec)

/-- ITS FALSE NEIGHBOUR: 'it returns false'. Refute it at one input. -/
def treeSharingWrong : ChangeSpec := { name := "treeSharing", fn := fun _ => fun
  | [d1, d2, d3] => { results := [.lit (.bool false)], args := [d1, d2, d3] }
  | _ => none }
def TreeSharingWrongFalsely : Prop := treeSharingRow.holds Tryz.pinned (OpenSpec.ofChange treeSharingWrong)

/-- 'cordwoodlaw09.TreeRoundTrip': WHATEVER THE INPUT: true; the input reads as it did. -/
def treeRoundTripSpec : ChangeSpec := { name := "treeRoundTrip", fn := fun _ => fun
  | [d1, d2, d3] => { results := [.lit (.bool true)], args := [d1, d2, d3] }
  | _ => none }
def treeRoundTripRow : OpenClaim := { program := "ytmdhlkkekidknaagreatdoor", sum := "958dc3573cc07be152c01d443dafc49324ec13807103aee01ed34c8aee015bc6", func := "cordwood/cordwoodlaw09.TreeRoundTrip", spec := "treeRoundTrip", inPlace := ["internal/bytealg.IndexByteString", "internal/bytealg.IndexString", "internal/abi.NoEscape", "internal/bytealg.abigen_runtime_cmpstring", "slices.overlaps[cordwood/api.File]", "internal/bytealg.CountString"], unfollowed := true, recurses := true, named := ["unicode/utf8.first", "unicode/utf8.acceptRanges", "internal/bytealg.MaxLen"], apart := false, laid := [("unicode/utf8.acceptRanges", laid_unicode_utf8_acceptRanges), ("unicode/utf8.first", laid_unicode_utf8_first)] }
def TreeRoundTripSaid : Prop := treeRoundTripRow.holds Tryz.pinned (OpenSpec.ofChange treeRoundTripSpec)

/-- ITS FALSE NEIGHBOUR: 'it returns false'. Refute it at one input. -/
def treeRoundTripWrong : ChangeSpec := { name := "treeRoundTrip", fn := fun _ => fun
  | [d1, d2, d3] => { results := [.lit (.bool false)], args := [d1, d2, d3] }
  | _ => none }
def TreeRoundTripWrongFalsely : Prop := treeRoundTripRow.holds Tryz.pinned (OpenSpec.ofChange treeRoundTripWrong)

/-- 'cordwoodlaw09.TreeEdits': WHATEVER THE INPUT: true; the input reads as it did. -/
def treeEditsSpec : ChangeSpec := { name := "treeEdits", fn := fun _ => fun
  | [d1, d2, d3, d4] => { results := [.lit (.bool true)], args := [d1, d2, d3, d4] }
  | _ => none }
def treeEditsRow : OpenClaim := { program := "ytmdhlkkekidknaagreatdoor", sum := "958dc3573cc07be152c01d443dafc49324ec13807103aee01ed34c8aee015bc6", func := "cordwood/cordwoodlaw09.TreeEdits", spec := "treeEdits", inPlace := ["internal/bytealg.IndexByteString", "internal/bytealg.IndexString", "internal/abi.NoEscape", "internal/bytealg.abigen_runtime_cmpstring", "slices.overlaps[cordwood/api.File]", "internal/bytealg.CountString"], unfollowed := true, recurses := true, named := ["unicode/utf8.first", "unicode/utf8.acceptRanges", "internal/bytealg.MaxLen"], apart := false, laid := [("unicode/utf8.acceptRanges", laid_unicode_utf8_acceptRanges), ("unicode/utf8.first", laid_unicode_utf8_first)] }
def TreeEditsSaid : Prop := treeEditsRow.holds Tryz.pinned (OpenSpec.ofChange treeEditsSpec)

/-- ITS FALSE NEIGHBOUR: 'it returns false'. Refute it at one input. -/
def treeEditsWrong : ChangeSpec := { name := "treeEdits", fn := fun _ => fun
  | [d1, d2, d3, d4] => { results := [.lit (.bool false)], args := [d1, d2, d3, d4] }
  | _ => none }
def TreeEditsWrongFalsely : Prop := treeEditsRow.holds Tryz.pinned (OpenSpec.ofChange treeEditsWrong)

/-- 'cordwoodlaw09.TreeOneFile': WHATEVER THE INPUT: true; the input reads as it did. -/
def treeOneFileSpec : ChangeSpec := { name := "treeOneFile", fn := fun _ => fun
  | [d1, d2, d3, d4] => { results := [.lit (.bool true)], args := [d1, d2, d3, d4] }
  | _ => none }
def treeOneFileRow : OpenClaim := { program := "ytmdhlkkekidknaagreatdoor", sum := "958dc3573cc07be152c01d443dafc49324ec13807103aee01ed34c8aee015bc6", func := "cordwood/cordwoodlaw09.TreeOneFile", spec := "treeOneFile", inPlace := ["internal/bytealg.IndexByteString", "internal/bytealg.IndexString", "internal/abi.NoEscape", "internal/bytealg.abigen_runtime_cmpstring", "slices.overlaps[cordwood/api.File]", "internal/bytealg.CountString"], unfollowed := true, recurses := true, named := ["unicode/utf8.first", "unicode/utf8.acceptRanges", "internal/bytealg.MaxLen"], apart := false, laid := [("unicode/utf8.acceptRanges", laid_unicode_utf8_acceptRanges), ("unicode/utf8.first", laid_unicode_utf8_first)] }
def TreeOneFileSaid : Prop := treeOneFileRow.holds Tryz.pinned (OpenSpec.ofChange treeOneFileSpec)

/-- ITS FALSE NEIGHBOUR: 'it returns false'. Refute it at one input. -/
def treeOneFileWrong : ChangeSpec := { name := "treeOneFile", fn := fun _ => fun
  | [d1, d2, d3, d4] => { results := [.lit (.bool false)], args := [d1, d2, d3, d4] }
  | _ => none }
def TreeOneFileWrongFalsely : Prop := treeOneFileRow.holds Tryz.pinned (OpenSpec.ofChange treeOneFileWrong)

/-- 'cordwoodlaw09.TreeDigests': WHATEVER THE INPUT: true; the input reads as it did. -/
def treeDigestsSpec : ChangeSpec := { name := "treeDigests", fn := fun _ => fun
  | [d1, d2] => { results := [.lit (.bool true)], args := [d1, d2] }
  | _ => none }
def treeDigestsRow : OpenClaim := { program := "ytmdhlkkekidknaagreatdoor", sum := "958dc3573cc07be152c01d443dafc49324ec13807103aee01ed34c8aee015bc6", func := "cordwood/cordwoodlaw09.TreeDigests", spec := "treeDigests", inPlace := ["internal/bytealg.IndexByteString", "internal/bytealg.IndexString", "internal/abi.NoEscape", "internal/bytealg.abigen_runtime_cmpstring", "slices.overlaps[cordwood/api.File]", "internal/bytealg.CountString"], unfollowed := true, recurses := true, named := ["unicode/utf8.first", "unicode/utf8.acceptRanges", "internal/bytealg.MaxLen"], apart := false, laid := [("unicode/utf8.acceptRanges", laid_unicode_utf8_acceptRanges), ("unicode/utf8.first", laid_unicode_utf8_first)] }
def TreeDigestsSaid : Prop := treeDigestsRow.holds Tryz.pinned (OpenSpec.ofChange treeDigestsSpec)

/-- ITS FALSE NEIGHBOUR: 'it returns false'. Refute it at one input. -/
def treeDigestsWrong : ChangeSpec := { name := "treeDigests", fn := fun _ => fun
  | [d1, d2] => { results := [.lit (.bool false)], args := [d1, d2] }
  | _ => none }
def TreeDigestsWrongFalsely : Prop := treeDigestsRow.holds Tryz.pinned (OpenSpec.ofChange treeDigestsWrong)

/-- 'cordwoodlaw09.TreeReads': WHATEVER THE INPUT: true; the input reads as it did. -/
def treeReadsSpec : ChangeSpec := { name := "treeReads", fn := fun _ => fun
  | [d1, d2, d3, d4] => { results := [.lit (.bool true)], args := [d1, d2, d3, d4] }
  | _ => none }
def treeReadsRow : OpenClaim := { program := "ytmdhlkkekidknaagreatdoor", sum := "958dc3573cc07be152c01d443dafc49324ec13807103aee01ed34c8aee015bc6", func := "cordwood/cordwoodlaw09.TreeReads", spec := "treeReads", inPlace := ["internal/bytealg.IndexByteString", "internal/bytealg.IndexString", "internal/abi.NoEscape", "internal/bytealg.abigen_runtime_cmpstring", "slices.overlaps[cordwood/api.File]", "internal/bytealg.CountString"], unfollowed := true, recurses := true, named := ["unicode/utf8.first", "unicode/utf8.acceptRanges", "internal/bytealg.MaxLen"], apart := false, laid := [("unicode/utf8.acceptRanges", laid_unicode_utf8_acceptRanges), ("unicode/utf8.first", laid_unicode_utf8_first)] }
def TreeReadsSaid : Prop := treeReadsRow.holds Tryz.pinned (OpenSpec.ofChange treeReadsSpec)

/-- ITS FALSE NEIGHBOUR: 'it returns false'. Refute it at one input. -/
def treeReadsWrong : ChangeSpec := { name := "treeReads", fn := fun _ => fun
  | [d1, d2, d3, d4] => { results := [.lit (.bool false)], args := [d1, d2, d3, d4] }
  | _ => none }
def TreeReadsWrongFalsely : Prop := treeReadsRow.holds Tryz.pinned (OpenSpec.ofChange treeReadsWrong)

/-- 'cordwoodlaw09.TreeLists': WHATEVER THE INPUT: true; the input reads as it did. -/
def treeListsSpec : ChangeSpec := { name := "treeLists", fn := fun _ => fun
  | [d1, d2] => { results := [.lit (.bool true)], args := [d1, d2] }
  | _ => none }
def treeListsRow : OpenClaim := { program := "ytmdhlkkekidknaagreatdoor", sum := "958dc3573cc07be152c01d443dafc49324ec13807103aee01ed34c8aee015bc6", func := "cordwood/cordwoodlaw09.TreeLists", spec := "treeLists", inPlace := ["internal/bytealg.IndexByteString", "internal/bytealg.IndexString", "internal/abi.NoEscape", "internal/bytealg.abigen_runtime_cmpstring", "slices.overlaps[cordwood/api.File]", "internal/bytealg.CountString"], unfollowed := true, recurses := true, named := ["unicode/utf8.first", "unicode/utf8.acceptRanges", "internal/bytealg.MaxLen"], apart := false, laid := [("unicode/utf8.acceptRanges", laid_unicode_utf8_acceptRanges), ("unicode/utf8.first", laid_unicode_utf8_first)] }
def TreeListsSaid : Prop := treeListsRow.holds Tryz.pinned (OpenSpec.ofChange treeListsSpec)

/-- ITS FALSE NEIGHBOUR: 'it returns false'. Refute it at one input. -/
def treeListsWrong : ChangeSpec := { name := "treeLists", fn := fun _ => fun
  | [d1, d2] => { results := [.lit (.bool false)], args := [d1, d2] }
  | _ => none }
def TreeListsWrongFalsely : Prop := treeListsRow.holds Tryz.pinned (OpenSpec.ofChange treeListsWrong)

/-- 'cordwoodlaw09.TreePatch': WHATEVER THE INPUT: true; the input reads as it did. -/
def treePatchSpec : ChangeSpec := { name := "treePatch", fn := fun _ => fun
  | [d1, d2] => { results := [.lit (.bool true)], args := [d1, d2] }
  | _ => none }
def treePatchRow : OpenClaim := { program := "ytmdhlkkekidknaagreatdoor", sum := "958dc3573cc07be152c01d443dafc49324ec13807103aee01ed34c8aee015bc6", func := "cordwood/cordwoodlaw09.TreePatch", spec := "treePatch", inPlace := ["internal/bytealg.IndexByteString", "internal/bytealg.IndexString", "internal/abi.NoEscape", "internal/bytealg.abigen_runtime_cmpstring", "slices.overlaps[cordwood/api.File]", "internal/bytealg.CountString"], unfollowed := true, recurses := true, named := ["unicode/utf8.first", "unicode/utf8.acceptRanges", "internal/bytealg.MaxLen"], apart := false, laid := [("unicode/utf8.acceptRanges", laid_unicode_utf8_acceptRanges), ("unicode/utf8.first", laid_unicode_utf8_first)] }
def TreePatchSaid : Prop := treePatchRow.holds Tryz.pinned (OpenSpec.ofChange treePatchSpec)

/-- ITS FALSE NEIGHBOUR: 'it returns false'. Refute it at one input. -/
def treePatchWrong : ChangeSpec := { name := "treePatch", fn := fun _ => fun
  | [d1, d2] => { results := [.lit (.bool false)], args := [d1, d2] }
  | _ => none }
def TreePatchWrongFalsely : Prop := treePatchRow.holds Tryz.pinned (OpenSpec.ofChange treePatchWrong)

/- THE SECOND FORM. 'bulk': how many values and letters a reading holds, each counted each time it is reached (what is shared counts as often as it is met; a slice's spare places count too). A statement '..UptoSaid' is the law's where the arguments, and the package variables that the reading takes, are together of bulk at most 1048576: NARROWER than '..Said'. Prove '..Said' where nothing that the law and all that it calls make is longer than what came in: it says more and counts as full. Else prove '..UptoSaid'. A law counts once. -/
mutual
def uptoBulk {H : Type} : DataW H → Nat
  | .lit (.string bytes) => bytes.length + 1
  | .lit _ => 1
  | .nil => 1
  | .ptr d => uptoBulk d + 1
  | .slice elems spare => uptoBulkAll elems + uptoBulkAll spare + 1
  | .agg parts => uptoBulkAll parts + 1
  | .iface _ d => uptoBulk d + 1
  | .map entries => uptoBulkEntries entries + 1
  | .held _ => 1
def uptoBulkAll {H : Type} : List (DataW H) → Nat
  | [] => 0
  | d :: r => uptoBulk d + uptoBulkAll r
def uptoBulkEntries {H : Type} : List (Lit × DataW H) → Nat
  | [] => 0
  | x :: r => uptoBulkEntry x + uptoBulkEntries r
def uptoBulkEntry {H : Type} : Lit × DataW H → Nat
  | (.string bytes, d) => bytes.length + uptoBulk d + 1
  | (_, d) => uptoBulk d + 1
 end
def uptoSmall : (H : Type) → List (DataW H) → Bool := fun _ ds => decide (uptoBulkAll ds ≤ 1048576)
def OpenSpec.upto (s : _root_.Go.ChangeSpec) : _root_.Go.OpenSpec := { _root_.Go.OpenSpec.ofChange s with cond := some uptoSmall }

/-- 'cordwoodlaw09.TreeStore', WHERE WHAT IT READS IS OF BULK AT MOST 1048576: true; the input reads as it did. -/
def treeStoreUptoRow : OpenClaim := { program := "ytmdhlkkekidknaagreatdoor", sum := "958dc3573cc07be152c01d443dafc49324ec13807103aee01ed34c8aee015bc6", func := "cordwood/cordwoodlaw09.TreeStore", spec := "treeStore", inPlace := ["internal/bytealg.IndexByteString", "internal/bytealg.IndexString", "internal/abi.NoEscape", "internal/bytealg.abigen_runtime_cmpstring", "slices.overlaps[cordwood/api.File]", "internal/bytealg.CountString"], unfollowed := true, recurses := true, named := ["unicode/utf8.first", "unicode/utf8.acceptRanges", "internal/bytealg.MaxLen"], apart := false, laid := [("unicode/utf8.acceptRanges", laid_unicode_utf8_acceptRanges), ("unicode/utf8.first", laid_unicode_utf8_first)], narrowed := true }
def TreeStoreUptoSaid : Prop := treeStoreUptoRow.holds Tryz.pinned (OpenSpec.upto treeStoreSpec)

/-- 'cordwoodlaw09.TreeSharing', WHERE WHAT IT READS IS OF BULK AT MOST 1048576: true; the input reads as it did. -/
def treeSharingUptoRow : OpenClaim := { program := "ytmdhlkkekidknaagreatdoor", sum := "958dc3573cc07be152c01d443dafc49324ec13807103aee01ed34c8aee015bc6", func := "cordwood/cordwoodlaw09.TreeSharing", spec := "treeSharing", inPlace := ["internal/bytealg.IndexByteString", "internal/bytealg.IndexString", "internal/abi.NoEscape", "internal/bytealg.abigen_runtime_cmpstring", "slices.overlaps[cordwood/api.File]", "internal/bytealg.CountString"], unfollowed := true, recurses := true, named := ["unicode/utf8.first", "unicode/utf8.acceptRanges", "internal/bytealg.MaxLen"], apart := false, laid := [("unicode/utf8.acceptRanges", laid_unicode_utf8_acceptRanges), ("unicode/utf8.first", laid_unicode_utf8_first)], narrowed := true }
def TreeSharingUptoSaid : Prop := treeSharingUptoRow.holds Tryz.pinned (OpenSpec.upto treeSharingSpec)

/-- 'cordwoodlaw09.TreeRoundTrip', WHERE WHAT IT READS IS OF BULK AT MOST 1048576: true; the input reads as it did. -/
def treeRoundTripUptoRow : OpenClaim := { program := "ytmdhlkkekidknaagreatdoor", sum := "958dc3573cc07be152c01d443dafc49324ec13807103aee01ed34c8aee015bc6", func := "cordwood/cordwoodlaw09.TreeRoundTrip", spec := "treeRoundTrip", inPlace := ["internal/bytealg.IndexByteString", "internal/bytealg.IndexString", "internal/abi.NoEscape", "internal/bytealg.abigen_runtime_cmpstring", "slices.overlaps[cordwood/api.File]", "internal/bytealg.CountString"], unfollowed := true, recurses := true, named := ["unicode/utf8.first", "unicode/utf8.acceptRanges", "internal/bytealg.MaxLen"], apart := false, laid := [("unicode/utf8.acceptRanges", laid_unicode_utf8_acceptRanges), ("unicode/utf8.first", laid_unicode_utf8_first)], narrowed := true }
def TreeRoundTripUptoSaid : Prop := treeRoundTripUptoRow.holds Tryz.pinned (OpenSpec.upto treeRoundTripSpec)

/-- 'cordwoodlaw09.TreeEdits', WHERE WHAT IT READS IS OF BULK AT MOST 1048576: true; the input reads as it did. -/
def treeEditsUptoRow : OpenClaim := { program := "ytmdhlkkekidknaagreatdoor", sum := "958dc3573cc07be152c01d443dafc49324ec13807103aee01ed34c8aee015bc6", func := "cordwood/cordwoodlaw09.TreeEdits", spec := "treeEdits", inPlace := ["internal/bytealg.IndexByteString", "internal/bytealg.IndexString", "internal/abi.NoEscape", "internal/bytealg.abigen_runtime_cmpstring", "slices.overlaps[cordwood/api.File]", "internal/bytealg.CountString"], unfollowed := true, recurses := true, named := ["unicode/utf8.first", "unicode/utf8.acceptRanges", "internal/bytealg.MaxLen"], apart := false, laid := [("unicode/utf8.acceptRanges", laid_unicode_utf8_acceptRanges), ("unicode/utf8.first", laid_unicode_utf8_first)], narrowed := true }
def TreeEditsUptoSaid : Prop := treeEditsUptoRow.holds Tryz.pinned (OpenSpec.upto treeEditsSpec)

/-- 'cordwoodlaw09.TreeOneFile', WHERE WHAT IT READS IS OF BULK AT MOST 1048576: true; the input reads as it did. -/
def treeOneFileUptoRow : OpenClaim := { program := "ytmdhlkkekidknaagreatdoor", sum := "958dc3573cc07be152c01d443dafc49324ec13807103aee01ed34c8aee015bc6", func := "cordwood/cordwoodlaw09.TreeOneFile", spec := "treeOneFile", inPlace := ["internal/bytealg.IndexByteString", "internal/bytealg.IndexString", "internal/abi.NoEscape", "internal/bytealg.abigen_runtime_cmpstring", "slices.overlaps[cordwood/api.File]", "internal/bytealg.CountString"], unfollowed := true, recurses := true, named := ["unicode/utf8.first", "unicode/utf8.acceptRanges", "internal/bytealg.MaxLen"], apart := false, laid := [("unicode/utf8.acceptRanges", laid_unicode_utf8_acceptRanges), ("unicode/utf8.first", laid_unicode_utf8_first)], narrowed := true }
def TreeOneFileUptoSaid : Prop := treeOneFileUptoRow.holds Tryz.pinned (OpenSpec.upto treeOneFileSpec)

/-- 'cordwoodlaw09.TreeDigests', WHERE WHAT IT READS IS OF BULK AT MOST 1048576: true; the input reads as it did. -/
def treeDigestsUptoRow : OpenClaim := { program := "ytmdhlkkekidknaagreatdoor", sum := "958dc3573cc07be152c01d443dafc49324ec13807103aee01ed34c8aee015bc6", func := "cordwood/cordwoodlaw09.TreeDigests", spec := "treeDigests", inPlace := ["internal/bytealg.IndexByteString", "internal/bytealg.IndexString", "internal/abi.NoEscape", "internal/bytealg.abigen_runtime_cmpstring", "slices.overlaps[cordwood/api.File]", "internal/bytealg.CountString"], unfollowed := true, recurses := true, named := ["unicode/utf8.first", "unicode/utf8.acceptRanges", "internal/bytealg.MaxLen"], apart := false, laid := [("unicode/utf8.acceptRanges", laid_unicode_utf8_acceptRanges), ("unicode/utf8.first", laid_unicode_utf8_first)], narrowed := true }
def TreeDigestsUptoSaid : Prop := treeDigestsUptoRow.holds Tryz.pinned (OpenSpec.upto treeDigestsSpec)

/-- 'cordwoodlaw09.TreeReads', WHERE WHAT IT READS IS OF BULK AT MOST 1048576: true; the input reads as it did. -/
def treeReadsUptoRow : OpenClaim := { program := "ytmdhlkkekidknaagreatdoor", sum := "958dc3573cc07be152c01d443dafc49324ec13807103aee01ed34c8aee015bc6", func := "cordwood/cordwoodlaw09.TreeReads", spec := "treeReads", inPlace := ["internal/bytealg.IndexByteString", "internal/bytealg.IndexString", "internal/abi.NoEscape", "internal/bytealg.abigen_runtime_cmpstring", "slices.overlaps[cordwood/api.File]", "internal/bytealg.CountString"], unfollowed := true, recurses := true, named := ["unicode/utf8.first", "unicode/utf8.acceptRanges", "internal/bytealg.MaxLen"], apart := false, laid := [("unicode/utf8.acceptRanges", laid_unicode_utf8_acceptRanges), ("unicode/utf8.first", laid_unicode_utf8_first)], narrowed := true }
def TreeReadsUptoSaid : Prop := treeReadsUptoRow.holds Tryz.pinned (OpenSpec.upto treeReadsSpec)

/-- 'cordwoodlaw09.TreeLists', WHERE WHAT IT READS IS OF BULK AT MOST 1048576: true; the input reads as it did. -/
def treeListsUptoRow : OpenClaim := { program := "ytmdhlkkekidknaagreatdoor", sum := "958dc3573cc07be152c01d443dafc49324ec13807103aee01ed34c8aee015bc6", func := "cordwood/cordwoodlaw09.TreeLists", spec := "treeLists", inPlace := ["internal/bytealg.IndexByteString", "internal/bytealg.IndexString", "internal/abi.NoEscape", "internal/bytealg.abigen_runtime_cmpstring", "slices.overlaps[cordwood/api.File]", "internal/bytealg.CountString"], unfollowed := true, recurses := true, named := ["unicode/utf8.first", "unicode/utf8.acceptRanges", "internal/bytealg.MaxLen"], apart := false, laid := [("unicode/utf8.acceptRanges", laid_unicode_utf8_acceptRanges), ("unicode/utf8.first", laid_unicode_utf8_first)], narrowed := true }
def TreeListsUptoSaid : Prop := treeListsUptoRow.holds Tryz.pinned (OpenSpec.upto treeListsSpec)

/-- 'cordwoodlaw09.TreePatch', WHERE WHAT IT READS IS OF BULK AT MOST 1048576: true; the input reads as it did. -/
def treePatchUptoRow : OpenClaim := { program := "ytmdhlkkekidknaagreatdoor", sum := "958dc3573cc07be152c01d443dafc49324ec13807103aee01ed34c8aee015bc6", func := "cordwood/cordwoodlaw09.TreePatch", spec := "treePatch", inPlace := ["internal/bytealg.IndexByteString", "internal/bytealg.IndexString", "internal/abi.NoEscape", "internal/bytealg.abigen_runtime_cmpstring", "slices.overlaps[cordwood/api.File]", "internal/bytealg.CountString"], unfollowed := true, recurses := true, named := ["unicode/utf8.first", "unicode/utf8.acceptRanges", "internal/bytealg.MaxLen"], apart := false, laid := [("unicode/utf8.acceptRanges", laid_unicode_utf8_acceptRanges), ("unicode/utf8.first", laid_unicode_utf8_first)], narrowed := true }
def TreePatchUptoSaid : Prop := treePatchUptoRow.holds Tryz.pinned (OpenSpec.upto treePatchSpec)

end Rows
end Go.Proofs.YtmdhlkkekidknaaGreatDoor
