/-
  NARROWER THAN 'FOR EVERY INPUT', by the rows' own cells (each row's printed sentence says how): RepoOpen: laid · RepoCollects: laid · RepoDurable: laid · RepoAtomic: laid · RepoCommits: laid · RepoComplete: laid.
  DERIVED. THE GIVEN ROWS OF THIS SEAT. 6 by the template 'for every input the law returns true; each argument reads behind the call as it read before'; 0 by the template 'total and deterministic' (their statements: YtknefelegjlgnaaGreatDoorTotals.lean).
  GIVEN WITH THE SEED: the statements are not yours to turn. If you find one false, say at which input.
  Laid BY PROGRAM, IN A SANDBOX (cutbox-rows.mjs): the forced cells as the released guide's own fill.sh prints them over the translation 03e23ead3d7605d9… (all of the seat's roots in one cut). By AI agents, Wed Nov 11 2026. No macro, syntax, notation, axiom, sorry.
-/
import Derived.Test.YtknefelegjlgnaaGreatDoorChecked
import GoSem.PinnedTables
import GoSem.Claim
import GoSem.ClaimJoined
import GoSem.ClaimMapViews
import Derived.JoinedTies
import Derived.KernelRfl
namespace Go.Proofs.YtknefelegjlgnaaGreatDoor
/- THE CELL 'sum', in the pinned program and in every row, IS THE sha256 OF THE DUMP (.gsa) THAT YtknefelegjlgnaaGreatDoorProg.lean LOADS. Nothing in Lean hashes anything: it is a label: what it is worth is what the hold of that sum in a sandbox is worth. -/
noncomputable def Tryz.pinned : Pinned := { name := "ytknefelegjlgnaagreatdoor", sum := "03e23ead3d7605d9f4621ef17f4a730d5749ed4dc7bf3598b2032bae3d08f23f", checked := Tryz.checked }
namespace Rows
def none {H : Type} : Left H := { results := [], args := [] }

/- WHAT THE LISTED PACKAGE-LEVEL VARIABLES READ AS WHEN THE CALL BEGINS. Each datum BY PROGRAM (the guide's laid-datum.mjs) off the statement by which the dump's own 'gosem.cut.vars' lays the variable. In a bare row this is a premise. The card (YtknefelegjlgnaaGreatDoorCards.lean) ties it to the program's text. -/
def laid_unicode_utf8_acceptRanges {H : Type} : DataW H := .agg [.agg [.lit (.int .u8 128), .lit (.int .u8 191)], .agg [.lit (.int .u8 160), .lit (.int .u8 191)], .agg [.lit (.int .u8 128), .lit (.int .u8 159)], .agg [.lit (.int .u8 144), .lit (.int .u8 191)], .agg [.lit (.int .u8 128), .lit (.int .u8 143)], .agg [.lit (.int .u8 0), .lit (.int .u8 0)], .agg [.lit (.int .u8 0), .lit (.int .u8 0)], .agg [.lit (.int .u8 0), .lit (.int .u8 0)], .agg [.lit (.int .u8 0), .lit (.int .u8 0)], .agg [.lit (.int .u8 0), .lit (.int .u8 0)], .agg [.lit (.int .u8 0), .lit (.int .u8 0)], .agg [.lit (.int .u8 0), .lit (.int .u8 0)], .agg [.lit (.int .u8 0), .lit (.int .u8 0)], .agg [.lit (.int .u8 0), .lit (.int .u8 0)], .agg [.lit (.int .u8 0), .lit (.int .u8 0)], .agg [.lit (.int .u8 0), .lit (.int .u8 0)]]
/-- One of Go's own tables, pinned by name: the form's constant. -/
def laid_unicode_utf8_first : DataW Unit := Go.Pinned.utf8First

/-- 'cordwoodlaw12.RepoOpen': WHATEVER THE INPUT: true; the input reads as it did. -/
def repoOpenSpec : ChangeSpec := { name := "repoOpen", fn := fun _ => fun
  | [d] => { results := [.lit (.bool true)], args := [d] }
  | _ => none }
def repoOpenRow : OpenClaim := { program := "ytknefelegjlgnaagreatdoor", sum := "03e23ead3d7605d9f4621ef17f4a730d5749ed4dc7bf3598b2032bae3d08f23f", func := "cordwood/cordwoodlaw12.RepoOpen", spec := "repoOpen", inPlace := ["internal/abi.NoEscape", "internal/bytealg.MakeNoZero", "internal/bytealg.IndexByteString", "internal/bytealg.IndexString"], unfollowed := true, recurses := true, named := ["unicode/utf8.first", "unicode/utf8.acceptRanges", "internal/bytealg.MaxLen"], plainKeys := false, apart := false, laid := [("unicode/utf8.acceptRanges", laid_unicode_utf8_acceptRanges), ("unicode/utf8.first", laid_unicode_utf8_first)] }
def RepoOpenSaid : Prop := repoOpenRow.holds Tryz.pinned (OpenSpec.ofChange repoOpenSpec)

/-- ITS FALSE NEIGHBOUR: 'it returns false'. Refute it at one input. -/
def repoOpenWrong : ChangeSpec := { name := "repoOpen", fn := fun _ => fun
  | [d] => { results := [.lit (.bool false)], args := [d] }
  | _ => none }
def RepoOpenWrongFalsely : Prop := repoOpenRow.holds Tryz.pinned (OpenSpec.ofChange repoOpenWrong)

/-- 'cordwoodlaw12.RepoCollects': WHATEVER THE INPUT: true; the input reads as it did. -/
def repoCollectsSpec : ChangeSpec := { name := "repoCollects", fn := fun _ => fun
  | [d] => { results := [.lit (.bool true)], args := [d] }
  | _ => none }
def repoCollectsRow : OpenClaim := { program := "ytknefelegjlgnaagreatdoor", sum := "03e23ead3d7605d9f4621ef17f4a730d5749ed4dc7bf3598b2032bae3d08f23f", func := "cordwood/cordwoodlaw12.RepoCollects", spec := "repoCollects", inPlace := ["internal/abi.NoEscape", "internal/bytealg.MakeNoZero", "internal/bytealg.IndexByteString", "internal/bytealg.IndexString"], unfollowed := true, recurses := true, named := ["unicode/utf8.first", "unicode/utf8.acceptRanges", "internal/bytealg.MaxLen"], plainKeys := false, apart := false, laid := [("unicode/utf8.acceptRanges", laid_unicode_utf8_acceptRanges), ("unicode/utf8.first", laid_unicode_utf8_first)] }
def RepoCollectsSaid : Prop := repoCollectsRow.holds Tryz.pinned (OpenSpec.ofChange repoCollectsSpec)

/-- ITS FALSE NEIGHBOUR: 'it returns false'. Refute it at one input. -/
def repoCollectsWrong : ChangeSpec := { name := "repoCollects", fn := fun _ => fun
  | [d] => { results := [.lit (.bool false)], args := [d] }
  | _ => none }
def RepoCollectsWrongFalsely : Prop := repoCollectsRow.holds Tryz.pinned (OpenSpec.ofChange repoCollectsWrong)

/-- 'cordwoodlaw12.RepoDurable': WHATEVER THE INPUT: true; the input reads as it did. -/
def repoDurableSpec : ChangeSpec := { name := "repoDurable", fn := fun _ => fun
  | [d1, d2] => { results := [.lit (.bool true)], args := [d1, d2] }
  | _ => none }
def repoDurableRow : OpenClaim := { program := "ytknefelegjlgnaagreatdoor", sum := "03e23ead3d7605d9f4621ef17f4a730d5749ed4dc7bf3598b2032bae3d08f23f", func := "cordwood/cordwoodlaw12.RepoDurable", spec := "repoDurable", inPlace := ["internal/abi.NoEscape", "internal/bytealg.MakeNoZero", "internal/bytealg.IndexByteString", "internal/bytealg.IndexString"], unfollowed := true, recurses := true, named := ["unicode/utf8.first", "unicode/utf8.acceptRanges", "internal/bytealg.MaxLen"], plainKeys := false, apart := false, laid := [("unicode/utf8.acceptRanges", laid_unicode_utf8_acceptRanges), ("unicode/utf8.first", laid_unicode_utf8_first)] }
def RepoDurableSaid : Prop := repoDurableRow.holds Tryz.pinned (OpenSpec.ofChange repoDurableSpec)

/-- ITS FALSE NEIGHBOUR: 'it returns false'. Refute it at one input. -/
def repoDurableWrong : ChangeSpec := { name := "repoDurable", fn := fun _ => fun
  | [d1, d2] => { results := [.lit (.bool false)], args := [d1, d2] }
  | _ => none }
def RepoDurableWrongFalsely : Prop := repoDurableRow.holds Tryz.pinned (OpenSpec.ofChange repoDurableWrong)

/-- 'cordwoodlaw12.RepoAtomic': WHATEVER THE INPUT: true; the input reads as it did. -/
def repoAtomicSpec : ChangeSpec := { name := "repoAtomic", fn := fun _ => fun
  | [d1, d2, d3, d4] => { results := [.lit (.bool true)], args := [d1, d2, d3, d4] }
  | _ => none }
def repoAtomicRow : OpenClaim := { program := "ytknefelegjlgnaagreatdoor", sum := "03e23ead3d7605d9f4621ef17f4a730d5749ed4dc7bf3598b2032bae3d08f23f", func := "cordwood/cordwoodlaw12.RepoAtomic", spec := "repoAtomic", inPlace := ["internal/abi.NoEscape", "internal/bytealg.MakeNoZero", "internal/bytealg.IndexByteString", "internal/bytealg.IndexString"], unfollowed := true, recurses := true, named := ["unicode/utf8.first", "unicode/utf8.acceptRanges", "internal/bytealg.MaxLen"], plainKeys := false, apart := false, laid := [("unicode/utf8.acceptRanges", laid_unicode_utf8_acceptRanges), ("unicode/utf8.first", laid_unicode_utf8_first)] }
def RepoAtomicSaid : Prop := repoAtomicRow.holds Tryz.pinned (OpenSpec.ofChange repoAtomicSpec)

/-- ITS FALSE NEIGHBOUR: 'it returns false'. Refute it at one input. -/
def repoAtomicWrong : ChangeSpec := { name := "repoAtomic", fn := fun _ => fun
  | [d1, d2, d3, d4] => { results := [.lit (.bool false)], args := [d1, d2, d3, d4] }
  | _ => none }
def RepoAtomicWrongFalsely : Prop := repoAtomicRow.holds Tryz.pinned (OpenSpec.ofChange repoAtomicWrong)

/-- 'cordwoodlaw12.RepoCommits': WHATEVER THE INPUT: true; the input reads as it did. -/
def repoCommitsSpec : ChangeSpec := { name := "repoCommits", fn := fun _ => fun
  | [d1, d2, d3] => { results := [.lit (.bool true)], args := [d1, d2, d3] }
  | _ => none }
def repoCommitsRow : OpenClaim := { program := "ytknefelegjlgnaagreatdoor", sum := "03e23ead3d7605d9f4621ef17f4a730d5749ed4dc7bf3598b2032bae3d08f23f", func := "cordwood/cordwoodlaw12.RepoCommits", spec := "repoCommits", inPlace := ["internal/abi.NoEscape", "internal/bytealg.MakeNoZero", "internal/bytealg.IndexByteString", "internal/bytealg.IndexString", "internal/bytealg.abigen_runtime_cmpstring"], unfollowed := true, recurses := true, named := ["unicode/utf8.first", "unicode/utf8.acceptRanges", "internal/bytealg.MaxLen"], plainKeys := false, apart := false, laid := [("unicode/utf8.acceptRanges", laid_unicode_utf8_acceptRanges), ("unicode/utf8.first", laid_unicode_utf8_first)] }
def RepoCommitsSaid : Prop := repoCommitsRow.holds Tryz.pinned (OpenSpec.ofChange repoCommitsSpec)

/-- ITS FALSE NEIGHBOUR: 'it returns false'. Refute it at one input. -/
def repoCommitsWrong : ChangeSpec := { name := "repoCommits", fn := fun _ => fun
  | [d1, d2, d3] => { results := [.lit (.bool false)], args := [d1, d2, d3] }
  | _ => none }
def RepoCommitsWrongFalsely : Prop := repoCommitsRow.holds Tryz.pinned (OpenSpec.ofChange repoCommitsWrong)

/-- 'cordwoodlaw12.RepoComplete': WHATEVER THE INPUT: true; the input reads as it did. -/
def repoCompleteSpec : ChangeSpec := { name := "repoComplete", fn := fun _ => fun
  | [d] => { results := [.lit (.bool true)], args := [d] }
  | _ => none }
def repoCompleteRow : OpenClaim := { program := "ytknefelegjlgnaagreatdoor", sum := "03e23ead3d7605d9f4621ef17f4a730d5749ed4dc7bf3598b2032bae3d08f23f", func := "cordwood/cordwoodlaw12.RepoComplete", spec := "repoComplete", inPlace := ["internal/abi.NoEscape", "internal/bytealg.MakeNoZero", "internal/bytealg.IndexByteString", "internal/bytealg.IndexString", "internal/bytealg.abigen_runtime_cmpstring"], unfollowed := true, recurses := true, named := ["unicode/utf8.first", "unicode/utf8.acceptRanges", "internal/bytealg.MaxLen"], plainKeys := false, apart := false, laid := [("unicode/utf8.acceptRanges", laid_unicode_utf8_acceptRanges), ("unicode/utf8.first", laid_unicode_utf8_first)] }
def RepoCompleteSaid : Prop := repoCompleteRow.holds Tryz.pinned (OpenSpec.ofChange repoCompleteSpec)

/-- ITS FALSE NEIGHBOUR: 'it returns false'. Refute it at one input. -/
def repoCompleteWrong : ChangeSpec := { name := "repoComplete", fn := fun _ => fun
  | [d] => { results := [.lit (.bool false)], args := [d] }
  | _ => none }
def RepoCompleteWrongFalsely : Prop := repoCompleteRow.holds Tryz.pinned (OpenSpec.ofChange repoCompleteWrong)

/- THE SECOND FORM. 'bulk': how many values and letters a reading holds, each counted each time it is reached (what is shared counts as often as it is met; a slice's spare places count too). A statement '..UptoSaid' is the law's where the arguments, and the package variables that the reading takes, are together of bulk at most 1048576: NARROWER than '..Said'. Prove '..Said' where nothing that the law and all that it calls make is longer than what came in: it says more and counts as full. Else prove '..UptoSaid'. A law counts once. -/
mutual
def uptoBulk {H : Type} : DataW H → Nat
  | .lit (.string bytes) => bytes.length + 1
  | .lit _ => 1
  | .nil => 1
  | .ptr d => uptoBulk d + 1
  | .slice elems spare => uptoBulkAll elems + uptoBulkAll spare + 1
  | .agg parts => uptoBulkAll parts + 1
  | .iface _ d => uptoBulk d + 1
  | .map entries => uptoBulkEntries entries + 1
  | .held _ => 1
def uptoBulkAll {H : Type} : List (DataW H) → Nat
  | [] => 0
  | d :: r => uptoBulk d + uptoBulkAll r
def uptoBulkEntries {H : Type} : List (Lit × DataW H) → Nat
  | [] => 0
  | x :: r => uptoBulkEntry x + uptoBulkEntries r
def uptoBulkEntry {H : Type} : Lit × DataW H → Nat
  | (.string bytes, d) => bytes.length + uptoBulk d + 1
  | (_, d) => uptoBulk d + 1
 end
def uptoSmall : (H : Type) → List (DataW H) → Bool := fun _ ds => decide (uptoBulkAll ds ≤ 1048576)
def OpenSpec.upto (s : _root_.Go.ChangeSpec) : _root_.Go.OpenSpec := { _root_.Go.OpenSpec.ofChange s with cond := some uptoSmall }

/-- 'cordwoodlaw12.RepoOpen', WHERE WHAT IT READS IS OF BULK AT MOST 1048576: true; the input reads as it did. -/
def repoOpenUptoRow : OpenClaim := { program := "ytknefelegjlgnaagreatdoor", sum := "03e23ead3d7605d9f4621ef17f4a730d5749ed4dc7bf3598b2032bae3d08f23f", func := "cordwood/cordwoodlaw12.RepoOpen", spec := "repoOpen", inPlace := ["internal/abi.NoEscape", "internal/bytealg.MakeNoZero", "internal/bytealg.IndexByteString", "internal/bytealg.IndexString"], unfollowed := true, recurses := true, named := ["unicode/utf8.first", "unicode/utf8.acceptRanges", "internal/bytealg.MaxLen"], plainKeys := false, apart := false, laid := [("unicode/utf8.acceptRanges", laid_unicode_utf8_acceptRanges), ("unicode/utf8.first", laid_unicode_utf8_first)], narrowed := true }
def RepoOpenUptoSaid : Prop := repoOpenUptoRow.holds Tryz.pinned (OpenSpec.upto repoOpenSpec)

/-- 'cordwoodlaw12.RepoCollects', WHERE WHAT IT READS IS OF BULK AT MOST 1048576: true; the input reads as it did. -/
def repoCollectsUptoRow : OpenClaim := { program := "ytknefelegjlgnaagreatdoor", sum := "03e23ead3d7605d9f4621ef17f4a730d5749ed4dc7bf3598b2032bae3d08f23f", func := "cordwood/cordwoodlaw12.RepoCollects", spec := "repoCollects", inPlace := ["internal/abi.NoEscape", "internal/bytealg.MakeNoZero", "internal/bytealg.IndexByteString", "internal/bytealg.IndexString"], unfollowed := true, recurses := true, named := ["unicode/utf8.first", "unicode/utf8.acceptRanges", "internal/bytealg.MaxLen"], plainKeys := false, apart := false, laid := [("unicode/utf8.acceptRanges", laid_unicode_utf8_acceptRanges), ("unicode/utf8.first", laid_unicode_utf8_first)], narrowed := true }
def RepoCollectsUptoSaid : Prop := repoCollectsUptoRow.holds Tryz.pinned (OpenSpec.upto repoCollectsSpec)

/-- 'cordwoodlaw12.RepoDurable', WHERE WHAT IT READS IS OF BULK AT MOST 1048576: true; the input reads as it did. -/
def repoDurableUptoRow : OpenClaim := { program := "ytknefelegjlgnaagreatdoor", sum := "03e23ead3d7605d9f4621ef17f4a730d5749ed4dc7bf3598b2032bae3d08f23f", func := "cordwood/cordwoodlaw12.RepoDurable", spec := "repoDurable", inPlace := ["internal/abi.NoEscape", "internal/bytealg.MakeNoZero", "internal/bytealg.IndexByteString", "internal/bytealg.IndexString"], unfollowed := true, recurses := true, named := ["unicode/utf8.first", "unicode/utf8.acceptRanges", "internal/bytealg.MaxLen"], plainKeys := false, apart := false, laid := [("unicode/utf8.acceptRanges", laid_unicode_utf8_acceptRanges), ("unicode/utf8.first", laid_unicode_utf8_first)], narrowed := true }
def RepoDurableUptoSaid : Prop := repoDurableUptoRow.holds Tryz.pinned (OpenSpec.upto repoDurableSpec)

/-- 'cordwoodlaw12.RepoAtomic', WHERE WHAT IT READS IS OF BULK AT MOST 1048576: true; the input reads as it did. -/
def repoAtomicUptoRow : OpenClaim := { program := "ytknefelegjlgnaagreatdoor", sum := "03e23ead3d7605d9f4621ef17f4a730d5749ed4dc7bf3598b2032bae3d08f23f", func := "cordwood/cordwoodlaw12.RepoAtomic", spec := "repoAtomic", inPlace := ["internal/abi.NoEscape", "internal/bytealg.MakeNoZero", "internal/bytealg.IndexByteString", "internal/bytealg.IndexString"], unfollowed := true, recurses := true, named := ["unicode/utf8.first", "unicode/utf8.acceptRanges", "internal/bytealg.MaxLen"], plainKeys := false, apart := false, laid := [("unicode/utf8.acceptRanges", laid_unicode_utf8_acceptRanges), ("unicode/utf8.first", laid_unicode_utf8_first)], narrowed := true }
def RepoAtomicUptoSaid : Prop := repoAtomicUptoRow.holds Tryz.pinned (OpenSpec.upto repoAtomicSpec)

/-- 'cordwoodlaw12.RepoCommits', WHERE WHAT IT READS IS OF BULK AT MOST 1048576: true; the input reads as it did. -/
def repoCommitsUptoRow : OpenClaim := { program := "ytknefelegjlgnaagreatdoor", sum := "03e23ead3d7605d9f4621ef17f4a730d5749ed4dc7bf3598b2032bae3d08f23f", func := "cordwood/cordwoodlaw12.RepoCommits", spec := "repoCommits", inPlace := ["internal/abi.NoEscape", "internal/bytealg.MakeNoZero", "internal/bytealg.IndexByteString", "internal/bytealg.IndexString", "internal/bytealg.abigen_runtime_cmpstring"], unfollowed := true, recurses := true, named := ["unicode/utf8.first", "unicode/utf8.acceptRanges", "internal/bytealg.MaxLen"], plainKeys := false, apart := false, laid := [("unicode/utf8.acceptRanges", laid_unicode_utf8_acceptRanges), ("unicode/utf8.first", laid_unicode_utf8_first)], narrowed := true }
def RepoCommitsUptoSaid : Prop := repoCommitsUptoRow.holds Tryz.pinned (OpenSpec.upto repoCommitsSpec)

/-- 'cordwoodlaw12.RepoComplete', WHERE WHAT IT READS IS OF BULK AT MOST 1048576: true; the input reads as it did. -/
def repoCompleteUptoRow : OpenClaim := { program := "ytknefelegjlgnaagreatdoor", sum := "03e23ead3d7605d9f4621ef17f4a730d5749ed4dc7bf3598b2032bae3d08f23f", func := "cordwood/cordwoodlaw12.RepoComplete", spec := "repoComplete", inPlace := ["internal/abi.NoEscape", "internal/bytealg.MakeNoZero", "internal/bytealg.IndexByteString", "internal/bytealg.IndexString", "internal/bytealg.abigen_runtime_cmpstring"], unfollowed := true, recurses := true, named := ["unicode/utf8.first", "unicode/utf8.acceptRanges", "internal/bytealg.MaxLen"], plainKeys := false, apart := false, laid := [("unicode/utf8.acceptRanges", laid_unicode_utf8_acceptRanges), ("unicode/utf8.first", laid_unicode_utf8_first)], narrowed := true }
def RepoCompleteUptoSaid : Prop := repoCompleteUptoRow.holds Tryz.pinned (OpenSpec.upto repoCompleteSpec)

end Rows
end Go.Proofs.YtknefelegjlgnaaGreatDoor
