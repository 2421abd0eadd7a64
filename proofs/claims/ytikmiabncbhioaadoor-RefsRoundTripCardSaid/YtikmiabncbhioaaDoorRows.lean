/-
  NARROWER THAN 'FOR EVERY INPUT', by the rows' own cells (each row's printed sentence says how): RefsUpdate: laid · RefsUndo: laid · RefsAtomic: laid · RefsLog: laid · RefsCompares: laid · RefsCheck: laid · RefsCodec: laid · RefsRoundTrip: laid.
  DERIVED. THE GIVEN ROWS OF THIS SEAT. 8 by the template 'for every input the law returns true; each argument reads behind the call as it read before'; 0 by the template 'total and deterministic' (their statements: YtikmiabncbhioaaDoorTotals.lean).
  GIVEN WITH THE SEED: the statements are not yours to turn. If you find one false, say at which input.
  Laid BY PROGRAM, IN A SANDBOX (cutbox-rows.mjs): the forced cells as the released guide's own fill.sh prints them over the translation 380f74cb2df22bfd… (all of the seat's roots in one cut). By AI agents, Wed Nov 11 2026. No macro, syntax, notation, axiom, sorry.
-/
import Derived.Test.YtikmiabncbhioaaDoorChecked
import GoSem.PinnedTables
import GoSem.Claim
import GoSem.ClaimJoined
import GoSem.ClaimMapViews
import Derived.JoinedTies
import Derived.KernelRfl
namespace Go.Proofs.YtikmiabncbhioaaDoor
/- THE CELL 'sum', in the pinned program and in every row, IS THE sha256 OF THE DUMP (.gsa) THAT YtikmiabncbhioaaDoorProg.lean LOADS. Nothing in Lean hashes anything: it is a label: what it is worth is what the hold of that sum in a sandbox is worth. -/
noncomputable def Tryd.pinned : Pinned := { name := "ytikmiabncbhioaadoor", sum := "380f74cb2df22bfd6155f21c5e510b62e9960824e719f7101e26e233e5fb4738", checked := Tryd.checked }
namespace Rows
def none {H : Type} : Left H := { results := [], args := [] }

/- WHAT THE LISTED PACKAGE-LEVEL VARIABLES READ AS WHEN THE CALL BEGINS. Each datum BY PROGRAM (the guide's laid-datum.mjs) off the statement by which the dump's own 'gosem.cut.vars' lays the variable. In a bare row this is a premise. The card (YtikmiabncbhioaaDoorCards.lean) ties it to the program's text. -/
def laid_unicode_utf8_acceptRanges {H : Type} : DataW H := .agg [.agg [.lit (.int .u8 128), .lit (.int .u8 191)], .agg [.lit (.int .u8 160), .lit (.int .u8 191)], .agg [.lit (.int .u8 128), .lit (.int .u8 159)], .agg [.lit (.int .u8 144), .lit (.int .u8 191)], .agg [.lit (.int .u8 128), .lit (.int .u8 143)], .agg [.lit (.int .u8 0), .lit (.int .u8 0)], .agg [.lit (.int .u8 0), .lit (.int .u8 0)], .agg [.lit (.int .u8 0), .lit (.int .u8 0)], .agg [.lit (.int .u8 0), .lit (.int .u8 0)], .agg [.lit (.int .u8 0), .lit (.int .u8 0)], .agg [.lit (.int .u8 0), .lit (.int .u8 0)], .agg [.lit (.int .u8 0), .lit (.int .u8 0)], .agg [.lit (.int .u8 0), .lit (.int .u8 0)], .agg [.lit (.int .u8 0), .lit (.int .u8 0)], .agg [.lit (.int .u8 0), .lit (.int .u8 0)], .agg [.lit (.int .u8 0), .lit (.int .u8 0)]]
/-- One of Go's own tables, pinned by name: the form's constant. -/
def laid_unicode_utf8_first : DataW Unit := Go.Pinned.utf8First

/-- 'cordwoodlaw11.RefsUpdate': WHATEVER THE INPUT: true; the input reads as it did. -/
def refsUpdateSpec : ChangeSpec := { name := "refsUpdate", fn := fun _ => fun
  | [d1, d2, d3] => { results := [.lit (.bool true)], args := [d1, d2, d3] }
  | _ => none }
def refsUpdateRow : OpenClaim := { program := "ytikmiabncbhioaadoor", sum := "380f74cb2df22bfd6155f21c5e510b62e9960824e719f7101e26e233e5fb4738", func := "cordwood/cordwoodlaw11.RefsUpdate", spec := "refsUpdate", inPlace := ["internal/bytealg.IndexByteString", "internal/bytealg.IndexString"], unfollowed := true, recurses := true, named := ["unicode/utf8.first", "unicode/utf8.acceptRanges", "internal/bytealg.MaxLen"], apart := false, laid := [("unicode/utf8.acceptRanges", laid_unicode_utf8_acceptRanges), ("unicode/utf8.first", laid_unicode_utf8_first)] }
def RefsUpdateSaid : Prop := refsUpdateRow.holds Tryd.pinned (OpenSpec.ofChange refsUpdateSpec)

/-- ITS FALSE NEIGHBOUR: 'it returns false'. Refute it at one input. -/
def refsUpdateWrong : ChangeSpec := { name := "refsUpdate", fn := fun _ => fun
  | [d1, d2, d3] => { results := [.lit (.bool false)], args := [d1, d2, d3] }
  | _ => none }
def RefsUpdateWrongFalsely : Prop := refsUpdateRow.holds Tryd.pinned (OpenSpec.ofChange refsUpdateWrong)

/-- 'cordwoodlaw11.RefsUndo': WHATEVER THE INPUT: true; the input reads as it did. -/
def refsUndoSpec : ChangeSpec := { name := "refsUndo", fn := fun _ => fun
  | [d1, d2] => { results := [.lit (.bool true)], args := [d1, d2] }
  | _ => none }
def refsUndoRow : OpenClaim := { program := "ytikmiabncbhioaadoor", sum := "380f74cb2df22bfd6155f21c5e510b62e9960824e719f7101e26e233e5fb4738", func := "cordwood/cordwoodlaw11.RefsUndo", spec := "refsUndo", inPlace := ["internal/bytealg.IndexByteString", "internal/bytealg.IndexString"], unfollowed := true, recurses := true, named := ["unicode/utf8.first", "unicode/utf8.acceptRanges", "internal/bytealg.MaxLen"], apart := false, laid := [("unicode/utf8.acceptRanges", laid_unicode_utf8_acceptRanges), ("unicode/utf8.first", laid_unicode_utf8_first)] }
def RefsUndoSaid : Prop := refsUndoRow.holds Tryd.pinned (OpenSpec.ofChange refsUndoSpec)

/-- ITS FALSE NEIGHBOUR: 'it returns false'. Refute it at one input. -/
def refsUndoWrong : ChangeSpec := { name := "refsUndo", fn := fun _ => fun
  | [d1, d2] => { results := [.lit (.bool false)], args := [d1, d2] }
  | _ => none }
def RefsUndoWrongFalsely : Prop := refsUndoRow.holds Tryd.pinned (OpenSpec.ofChange refsUndoWrong)

/-- 'cordwoodlaw11.RefsAtomic': WHATEVER THE INPUT: true; the input reads as it did. -/
def refsAtomicSpec : ChangeSpec := { name := "refsAtomic", fn := fun _ => fun
  | [d1, d2] => { results := [.lit (.bool true)], args := [d1, d2] }
  | _ => none }
def refsAtomicRow : OpenClaim := { program := "ytikmiabncbhioaadoor", sum := "380f74cb2df22bfd6155f21c5e510b62e9960824e719f7101e26e233e5fb4738", func := "cordwood/cordwoodlaw11.RefsAtomic", spec := "refsAtomic", inPlace := ["internal/bytealg.IndexByteString", "internal/bytealg.IndexString"], unfollowed := true, recurses := true, named := ["unicode/utf8.first", "unicode/utf8.acceptRanges", "internal/bytealg.MaxLen"], apart := false, laid := [("unicode/utf8.acceptRanges", laid_unicode_utf8_acceptRanges), ("unicode/utf8.first", laid_unicode_utf8_first)] }
def RefsAtomicSaid : Prop := refsAtomicRow.holds Tryd.pinned (OpenSpec.ofChange refsAtomicSpec)

/-- ITS FALSE NEIGHBOUR: 'it returns false'. Refute it at one input. -/
def refsAtomicWrong : ChangeSpec := { name := "refsAtomic", fn := fun _ => fun
  | [d1, d2] => { results := [.lit (.bool false)], args := [d1, d2] }
  | _ => none }
def RefsAtomicWrongFalsely : Prop := refsAtomicRow.holds Tryd.pinned (OpenSpec.ofChange refsAtomicWrong)

/-- 'cordwoodlaw11.RefsLog': WHATEVER THE INPUT: true; the input reads as it did. -/
def refsLogSpec : ChangeSpec := { name := "refsLog", fn := fun _ => fun
  | [d1, d2] => { results := [.lit (.bool true)], args := [d1, d2] }
  | _ => none }
def refsLogRow : OpenClaim := { program := "ytikmiabncbhioaadoor", sum := "380f74cb2df22bfd6155f21c5e510b62e9960824e719f7101e26e233e5fb4738", func := "cordwood/cordwoodlaw11.RefsLog", spec := "refsLog", inPlace := ["internal/bytealg.IndexByteString", "internal/bytealg.IndexString"], unfollowed := true, recurses := true, named := ["unicode/utf8.first", "unicode/utf8.acceptRanges", "internal/bytealg.MaxLen"], apart := false, laid := [("unicode/utf8.acceptRanges", laid_unicode_utf8_acceptRanges), ("unicode/utf8.first", laid_unicode_utf8_first)] }
def RefsLogSaid : Prop := refsLogRow.holds Tryd.pinned (OpenSpec.ofChange refsLogSpec)

/-- ITS FALSE NEIGHBOUR: 'it returns false'. Refute it at one input. -/
def refsLogWrong : ChangeSpec := { name := "refsLog", fn := fun _ => fun
  | [d1, d2] => { results := [.lit (.bool false)], args := [d1, d2] }
  | _ => none }
def RefsLogWrongFalsely : Prop := refsLogRow.holds Tryd.pinned (OpenSpec.ofChange refsLogWrong)

/-- 'cordwoodlaw11.RefsCompares': WHATEVER THE INPUT: true; the input reads as it did. -/
def refsComparesSpec : ChangeSpec := { name := "refsCompares", fn := fun _ => fun
  | [d1, d2, d3] => { results := [.lit (.bool true)], args := [d1, d2, d3] }
  | _ => none }
def refsComparesRow : OpenClaim := { program := "ytikmiabncbhioaadoor", sum := "380f74cb2df22bfd6155f21c5e510b62e9960824e719f7101e26e233e5fb4738", func := "cordwood/cordwoodlaw11.RefsCompares", spec := "refsCompares", inPlace := ["internal/bytealg.IndexByteString", "internal/bytealg.IndexString"], unfollowed := true, recurses := true, named := ["unicode/utf8.first", "unicode/utf8.acceptRanges", "internal/bytealg.MaxLen"], apart := false, laid := [("unicode/utf8.acceptRanges", laid_unicode_utf8_acceptRanges), ("unicode/utf8.first", laid_unicode_utf8_first)] }
def RefsComparesSaid : Prop := refsComparesRow.holds Tryd.pinned (OpenSpec.ofChange refsComparesSpec)

/-- ITS FALSE NEIGHBOUR: 'it returns false'. Refute it at one input. -/
def refsComparesWrong : ChangeSpec := { name := "refsCompares", fn := fun _ => fun
  | [d1, d2, d3] => { results := [.lit (.bool false)], args := [d1, d2, d3] }
  | _ => none }
def RefsComparesWrongFalsely : Prop := refsComparesRow.holds Tryd.pinned (OpenSpec.ofChange refsComparesWrong)

/-- 'cordwoodlaw11.RefsCheck': WHATEVER THE INPUT: true; the input reads as it did. -/
def refsCheckSpec : ChangeSpec := { name := "refsCheck", fn := fun _ => fun
  | [d1, d2, d3] => { results := [.lit (.bool true)], args := [d1, d2, d3] }
  | _ => none }
def refsCheckRow : OpenClaim := { program := "ytikmiabncbhioaadoor", sum := "380f74cb2df22bfd6155f21c5e510b62e9960824e719f7101e26e233e5fb4738", func := "cordwood/cordwoodlaw11.RefsCheck", spec := "refsCheck", inPlace := ["internal/bytealg.IndexByteString", "internal/bytealg.IndexString"], unfollowed := true, recurses := true, named := ["unicode/utf8.first", "unicode/utf8.acceptRanges", "internal/bytealg.MaxLen"], apart := false, laid := [("unicode/utf8.acceptRanges", laid_unicode_utf8_acceptRanges), ("unicode/utf8.first", laid_unicode_utf8_first)] }
def RefsCheckSaid : Prop := refsCheckRow.holds Tryd.pinned (OpenSpec.ofChange refsCheckSpec)

/-- ITS FALSE NEIGHBOUR: 'it returns false'. Refute it at one input. -/
def refsCheckWrong : ChangeSpec := { name := "refsCheck", fn := fun _ => fun
  | [d1, d2, d3] => { results := [.lit (.bool false)], args := [d1, d2, d3] }
  | _ => none }
def RefsCheckWrongFalsely : Prop := refsCheckRow.holds Tryd.pinned (OpenSpec.ofChange refsCheckWrong)

/-- 'cordwoodlaw11.RefsCodec': WHATEVER THE INPUT: true; the input reads as it did. -/
def refsCodecSpec : ChangeSpec := { name := "refsCodec", fn := fun _ => fun
  | [d1, d2] => { results := [.lit (.bool true)], args := [d1, d2] }
  | _ => none }
def refsCodecRow : OpenClaim := { program := "ytikmiabncbhioaadoor", sum := "380f74cb2df22bfd6155f21c5e510b62e9960824e719f7101e26e233e5fb4738", func := "cordwood/cordwoodlaw11.RefsCodec", spec := "refsCodec", inPlace := ["internal/bytealg.IndexByteString", "internal/bytealg.IndexString", "internal/abi.NoEscape"], unfollowed := true, recurses := true, named := ["unicode/utf8.first", "unicode/utf8.acceptRanges", "internal/bytealg.MaxLen"], apart := false, laid := [("unicode/utf8.acceptRanges", laid_unicode_utf8_acceptRanges), ("unicode/utf8.first", laid_unicode_utf8_first)] }
def RefsCodecSaid : Prop := refsCodecRow.holds Tryd.pinned (OpenSpec.ofChange refsCodecSpec)

/-- ITS FALSE NEIGHBOUR: 'it returns false'. Refute it at one input. -/
def refsCodecWrong : ChangeSpec := { name := "refsCodec", fn := fun _ => fun
  | [d1, d2] => { results := [.lit (.bool false)], args := [d1, d2] }
  | _ => none }
def RefsCodecWrongFalsely : Prop := refsCodecRow.holds Tryd.pinned (OpenSpec.ofChange refsCodecWrong)

/-- 'cordwoodlaw11.RefsRoundTrip': WHATEVER THE INPUT: true; the input reads as it did. -/
def refsRoundTripSpec : ChangeSpec := { name := "refsRoundTrip", fn := fun _ => fun
  | [d1, d2] => { results := [.lit (.bool true)], args := [d1, d2] }
  | _ => none }
def refsRoundTripRow : OpenClaim := { program := "ytikmiabncbhioaadoor", sum := "380f74cb2df22bfd6155f21c5e510b62e9960824e719f7101e26e233e5fb4738", func := "cordwood/cordwoodlaw11.RefsRoundTrip", spec := "refsRoundTrip", inPlace := ["internal/bytealg.IndexByteString", "internal/bytealg.IndexString", "internal/abi.NoEscape"], unfollowed := true, recurses := true, named := ["unicode/utf8.first", "unicode/utf8.acceptRanges", "internal/bytealg.MaxLen"], apart := false, laid := [("unicode/utf8.acceptRanges", laid_unicode_utf8_acceptRanges), ("unicode/utf8.first", laid_unicode_utf8_first)] }
def RefsRoundTripSaid : Prop := refsRoundTripRow.holds Tryd.pinned (OpenSpec.ofChange refsRoundTripSpec)

/-- ITS FALSE NEIGHBOUR: 'it returns false'. Refute it at one input. -/
def refsRoundTripWrong : ChangeSpec := { name := "refsRoundTrip", fn := fun _ => fun
  | [d1, d2] => { results := [.lit (.bool false)], args := [d1, d2] }
  | _ => none }
def RefsRoundTripWrongFalsely : Prop := refsRoundTripRow.holds Tryd.pinned (OpenSpec.ofChange refsRoundTripWrong)

/- THE SECOND FORM. 'bulk': how many values and letters a reading holds, each counted each time it is reached (what is shared counts as often as it is met; a slice's spare places count too). A statement '..UptoSaid' is the law's where the arguments, and the package variables that the reading takes, are together of bulk at most 1048576: NARROWER than '..Said'. Prove '..Said' where nothing that the law and all that it calls make is longer than what came in: it says more and counts as full. Else prove '..UptoSaid'. A law counts once. -/
mutual
def uptoBulk {H : Type} : DataW H → Nat
  | .lit (.string bytes) => bytes.length + 1
  | .lit _ => 1
  | .nil => 1
  | .ptr d => uptoBulk d + 1
  | .slice elems spare => uptoBulkAll elems + uptoBulkAll spare + 1
  | .agg parts => uptoBulkAll parts + 1
  | .iface _ d => uptoBulk d + 1
  | .map entries => uptoBulkEntries entries + 1
  | .held _ => 1
def uptoBulkAll {H : Type} : List (DataW H) → Nat
  | [] => 0
  | d :: r => uptoBulk d + uptoBulkAll r
def uptoBulkEntries {H : Type} : List (Lit × DataW H) → Nat
  | [] => 0
  | x :: r => uptoBulkEntry x + uptoBulkEntries r
def uptoBulkEntry {H : Type} : Lit × DataW H → Nat
  | (.string bytes, d) => bytes.length + uptoBulk d + 1
  | (_, d) => uptoBulk d + 1
 end
def uptoSmall : (H : Type) → List (DataW H) → Bool := fun _ ds => decide (uptoBulkAll ds ≤ 1048576)
def OpenSpec.upto (s : _root_.Go.ChangeSpec) : _root_.Go.OpenSpec := { _root_.Go.OpenSpec.ofChange s with cond := some uptoSmall }

/-- 'cordwoodlaw11.RefsUpdate', WHERE WHAT IT READS IS OF BULK AT MOST 1048576: true; the input reads as it did. -/
def refsUpdateUptoRow : OpenClaim := { program := "ytikmiabncbhioaadoor", sum := "380f74cb2df22bfd6155f21c5e510b62e9960824e719f7101e26e233e5fb4738", func := "cordwood/cordwoodlaw11.RefsUpdate", spec := "refsUpdate", inPlace := ["internal/bytealg.IndexByteString", "internal/bytealg.IndexString"], unfollowed := true, recurses := true, named := ["unicode/utf8.first", "unicode/utf8.acceptRanges", "internal/bytealg.MaxLen"], apart := false, laid := [("unicode/utf8.acceptRanges", laid_unicode_utf8_acceptRanges), ("unicode/utf8.first", laid_unicode_utf8_first)], narrowed := true }
def RefsUpdateUptoSaid : Prop := refsUpdateUptoRow.holds Tryd.pinned (OpenSpec.upto refsUpdateSpec)

/-- 'cordwoodlaw11.RefsUndo', WHERE WHAT IT READS IS OF BULK AT MOST 1048576: true; the input reads as it did. -/
def refsUndoUptoRow : OpenClaim := { program := "ytikmiabncbhioaadoor", sum := "380f74cb2df22bfd6155f21c5e510b62e9960824e719f7101e26e233e5fb4738", func := "cordwood/cordwoodlaw11.RefsUndo", spec := "refsUndo", inPlace := ["internal/bytealg.IndexByteString", "internal/bytealg.IndexString"], unfollowed := true, recurses := true, named := ["unicode/utf8.first", "unicode/utf8.acceptRanges", "internal/bytealg.MaxLen"], apart := false, laid := [("unicode/utf8.acceptRanges", laid_unicode_utf8_acceptRanges), ("unicode/utf8.first", laid_unicode_utf8_first)], narrowed := true }
def RefsUndoUptoSaid : Prop := refsUndoUptoRow.holds Tryd.pinned (OpenSpec.upto refsUndoSpec)

/-- 'cordwoodlaw11.RefsAtomic', WHERE WHAT IT READS IS OF BULK AT MOST 1048576: true; the input reads as it did. -/
def refsAtomicUptoRow : OpenClaim := { program := "ytikmiabncbhioaadoor", sum := "380f74cb2df22bfd6155f21c5e510b62e9960824e719f7101e26e233e5fb4738", func := "cordwood/cordwoodlaw11.RefsAtomic", spec := "refsAtomic", inPlace := ["internal/bytealg.IndexByteString", "internal/bytealg.IndexString"], unfollowed := true, recurses := true, named := ["unicode/utf8.first", "unicode/utf8.acceptRanges", "internal/bytealg.MaxLen"], apart := false, laid := [("unicode/utf8.acceptRanges", laid_unicode_utf8_acceptRanges), ("unicode/utf8.first", laid_unicode_utf8_first)], narrowed := true }
def RefsAtomicUptoSaid : Prop := refsAtomicUptoRow.holds Tryd.pinned (OpenSpec.upto refsAtomicSpec)

/-- 'cordwoodlaw11.RefsLog', WHERE WHAT IT READS IS OF BULK AT MOST 1048576: true; the input reads as it did. -/
def refsLogUptoRow : OpenClaim := { program := "ytikmiabncbhioaadoor", sum := "380f74cb2df22bfd6155f21c5e510b62e9960824e719f7101e26e233e5fb4738", func := "cordwood/cordwoodlaw11.RefsLog", spec := "refsLog", inPlace := ["internal/bytealg.IndexByteString", "internal/bytealg.IndexString"], unfollowed := true, recurses := true, named := ["unicode/utf8.first", "unicode/utf8.acceptRanges", "internal/bytealg.MaxLen"], apart := false, laid := [("unicode/utf8.acceptRanges", laid_unicode_utf8_acceptRanges), ("unicode/utf8.first", laid_unicode_utf8_first)], narrowed := true }
def RefsLogUptoSaid : Prop := refsLogUptoRow.holds Tryd.pinned (OpenSpec.upto refsLogSpec)

/-- 'cordwoodlaw11.RefsCompares', WHERE WHAT IT READS IS OF BULK AT MOST 1048576: true; the input reads as it did. -/
def refsComparesUptoRow : OpenClaim := { program := "ytikmiabncbhioaadoor", sum := "380f74cb2df22bfd6155f21c5e510b62e9960824e719f7101e26e233e5fb4738", func := "cordwood/cordwoodlaw11.RefsCompares", spec := "refsCompares", inPlace := ["internal/bytealg.IndexByteString", "internal/bytealg.IndexString"], unfollowed := true, recurses := true, named := ["unicode/utf8.first", "unicode/utf8.acceptRanges", "internal/bytealg.MaxLen"], apart := false, laid := [("unicode/utf8.acceptRanges", laid_unicode_utf8_acceptRanges), ("unicode/utf8.first", laid_unicode_utf8_first)], narrowed := true }
def RefsComparesUptoSaid : Prop := refsComparesUptoRow.holds Tryd.pinned (OpenSpec.upto refsComparesSpec)

/-- 'cordwoodlaw11.RefsCheck', WHERE WHAT IT READS IS OF BULK AT MOST 1048576: true; the input reads as it did. -/
def refsCheckUptoRow : OpenClaim := { program := "ytikmiabncbhioaadoor", sum := "380f74cb2df22bfd6155f21c5e510b62e9960824e719f7101e26e233e5fb4738", func := "cordwood/cordwoodlaw11.RefsCheck", spec := "refsCheck", inPlace := ["internal/bytealg.IndexByteString", "internal/bytealg.IndexString"], unfollowed := true, recurses := true, named := ["unicode/utf8.first", "unicode/utf8.acceptRanges", "internal/bytealg.MaxLen"], apart := false, laid := [("unicode/utf8.acceptRanges", laid_unicode_utf8_acceptRanges), ("unicode/utf8.first", laid_unicode_utf8_first)], narrowed := true }
def RefsCheckUptoSaid : Prop := refsCheckUptoRow.holds Tryd.pinned (OpenSpec.upto refsCheckSpec)

/-- 'cordwoodlaw11.RefsCodec', WHERE WHAT IT READS IS OF BULK AT MOST 1048576: true; the input reads as it did. -/
def refsCodecUptoRow : OpenClaim := { program := "ytikmiabncbhioaadoor", sum := "380f74cb2df22bfd6155f21c5e510b62e9960824e719f7101e26e233e5fb4738", func := "cordwood/cordwoodlaw11.RefsCodec", spec := "refsCodec", inPlace := ["internal/bytealg.IndexByteString", "internal/bytealg.IndexString", "internal/abi.NoEscape"], unfollowed := true, recurses := true, named := ["unicode/utf8.first", "unicode/utf8.acceptRanges", "internal/bytealg.MaxLen"], apart := false, laid := [("unicode/utf8.acceptRanges", laid_unicode_utf8_acceptRanges), ("unicode/utf8.first", laid_unicode_utf8_first)], narrowed := true }
def RefsCodecUptoSaid : Prop := refsCodecUptoRow.holds Tryd.pinned (OpenSpec.upto refsCodecSpec)

/-- 'cordwoodlaw11.RefsRoundTrip', WHERE WHAT IT READS IS OF BULK AT MOST 1048576: true; the input reads as it did. -/
def refsRoundTripUptoRow : OpenClaim := { program := "ytikmiabncbhioaadoor", sum := "380f74cb2df22bfd6155f21c5e510b62e9960824e719f7101e26e233e5fb4738", func := "cordwood/cordwoodlaw11.RefsRoundTrip", spec := "refsRoundTrip", inPlace := ["internal/bytealg.IndexByteString", "internal/bytealg.IndexString", "internal/abi.NoEscape"], unfollowed := true, recurses := true, named := ["unicode/utf8.first", "unicode/utf8.acceptRanges", "internal/bytealg.MaxLen"], apart := false, laid := [("unicode/utf8.acceptRanges", laid_unicode_utf8_acceptRanges), ("unicode/utf8.first", laid_unicode_utf8_first)], narrowed := true }
def RefsRoundTripUptoSaid : Prop := refsRoundTripUptoRow.holds Tryd.pinned (OpenSpec.upto refsRoundTripSpec)

end Rows
end Go.Proofs.YtikmiabncbhioaaDoor
