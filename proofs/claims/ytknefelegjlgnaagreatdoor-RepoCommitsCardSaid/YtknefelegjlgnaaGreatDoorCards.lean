/-
  DERIVED. GIVEN WITH THE SEED: THE CARDS: each row of YtknefelegjlgnaaGreatDoorRows.lean that lists a variable, with what it lists TIED to the program's text (the seventh form; the later family's looks); each row that meets fmt, with fmt's text TOLD by the authors' own Lean function (tested against real Go, not proved from fmt's source: count such statements apart). THE CARD IS WHAT COUNTS. Prove the row's statement (the work); the ties are given (YtknefelegjlgnaaGreatDoorTie.lean); close each card by the builder's one call (the guide's Derived/Test/ToyasCard.lean, 'card_holds'). Laid BY PROGRAM, IN A SANDBOX (cutbox-door.mjs). By AI agents, Wed Nov 11 2026. No macro, syntax, notation, axiom, sorry.
-/
import Derived.Test.YtknefelegjlgnaaGreatDoorRows
import GoSem.ClaimSeven
namespace Go.Proofs.YtknefelegjlgnaaGreatDoor
namespace Rows

/-- THE TIED CARD OF 'cordwoodlaw12.RepoOpen'. -/
def repoOpenCard : Claim7 := { stood := { row := repoOpenRow, standIns := [], harness := (true, "2329b2ec5e99fd1181a9005b15d4ca19368e55abd82d2baa59a409f430b6cbb6"), looks := false }, kinds := [], alts := [], laidByText := true, laidKinds := [.data, .pinned], laidTests := true, laidLooks := .later }
def RepoOpenCardSaid : Prop := Claim7.holds Tryz.pinned (.plain (OpenSpec.ofChange repoOpenSpec)) repoOpenCard

/-- THE TIED CARD OF 'cordwoodlaw12.RepoCollects'. -/
def repoCollectsCard : Claim7 := { stood := { row := repoCollectsRow, standIns := [], harness := (true, "2329b2ec5e99fd1181a9005b15d4ca19368e55abd82d2baa59a409f430b6cbb6"), looks := false }, kinds := [], alts := [], laidByText := true, laidKinds := [.data, .pinned], laidTests := true, laidLooks := .later }
def RepoCollectsCardSaid : Prop := Claim7.holds Tryz.pinned (.plain (OpenSpec.ofChange repoCollectsSpec)) repoCollectsCard

/-- THE TIED CARD OF 'cordwoodlaw12.RepoDurable'. -/
def repoDurableCard : Claim7 := { stood := { row := repoDurableRow, standIns := [], harness := (true, "2329b2ec5e99fd1181a9005b15d4ca19368e55abd82d2baa59a409f430b6cbb6"), looks := false }, kinds := [], alts := [], laidByText := true, laidKinds := [.data, .pinned], laidTests := true, laidLooks := .later }
def RepoDurableCardSaid : Prop := Claim7.holds Tryz.pinned (.plain (OpenSpec.ofChange repoDurableSpec)) repoDurableCard

/-- THE TIED CARD OF 'cordwoodlaw12.RepoAtomic'. -/
def repoAtomicCard : Claim7 := { stood := { row := repoAtomicRow, standIns := [], harness := (true, "2329b2ec5e99fd1181a9005b15d4ca19368e55abd82d2baa59a409f430b6cbb6"), looks := false }, kinds := [], alts := [], laidByText := true, laidKinds := [.data, .pinned], laidTests := true, laidLooks := .later }
def RepoAtomicCardSaid : Prop := Claim7.holds Tryz.pinned (.plain (OpenSpec.ofChange repoAtomicSpec)) repoAtomicCard

/-- THE TIED CARD OF 'cordwoodlaw12.RepoCommits'. -/
def repoCommitsCard : Claim7 := { stood := { row := repoCommitsRow, standIns := [], harness := (true, "2329b2ec5e99fd1181a9005b15d4ca19368e55abd82d2baa59a409f430b6cbb6"), looks := false }, kinds := [], alts := [], laidByText := true, laidKinds := [.data, .pinned], laidTests := true, laidLooks := .later }
def RepoCommitsCardSaid : Prop := Claim7.holds Tryz.pinned (.plain (OpenSpec.ofChange repoCommitsSpec)) repoCommitsCard

/-- THE TIED CARD OF 'cordwoodlaw12.RepoComplete'. -/
def repoCompleteCard : Claim7 := { stood := { row := repoCompleteRow, standIns := [], harness := (true, "2329b2ec5e99fd1181a9005b15d4ca19368e55abd82d2baa59a409f430b6cbb6"), looks := false }, kinds := [], alts := [], laidByText := true, laidKinds := [.data, .pinned], laidTests := true, laidLooks := .later }
def RepoCompleteCardSaid : Prop := Claim7.holds Tryz.pinned (.plain (OpenSpec.ofChange repoCompleteSpec)) repoCompleteCard

/-- THE SECOND FORM's CARD OF 'cordwoodlaw12.RepoOpen'. -/
def repoOpenUptoCard : Claim7 := { stood := { row := repoOpenUptoRow, standIns := [], harness := (true, "2329b2ec5e99fd1181a9005b15d4ca19368e55abd82d2baa59a409f430b6cbb6"), looks := false }, kinds := [], alts := [], laidByText := true, laidKinds := [.data, .pinned], laidTests := true, laidLooks := .later }
def RepoOpenUptoCardSaid : Prop := Claim7.holds Tryz.pinned (.plain (OpenSpec.upto repoOpenSpec)) repoOpenUptoCard

/-- THE SECOND FORM's CARD OF 'cordwoodlaw12.RepoCollects'. -/
def repoCollectsUptoCard : Claim7 := { stood := { row := repoCollectsUptoRow, standIns := [], harness := (true, "2329b2ec5e99fd1181a9005b15d4ca19368e55abd82d2baa59a409f430b6cbb6"), looks := false }, kinds := [], alts := [], laidByText := true, laidKinds := [.data, .pinned], laidTests := true, laidLooks := .later }
def RepoCollectsUptoCardSaid : Prop := Claim7.holds Tryz.pinned (.plain (OpenSpec.upto repoCollectsSpec)) repoCollectsUptoCard

/-- THE SECOND FORM's CARD OF 'cordwoodlaw12.RepoDurable'. -/
def repoDurableUptoCard : Claim7 := { stood := { row := repoDurableUptoRow, standIns := [], harness := (true, "2329b2ec5e99fd1181a9005b15d4ca19368e55abd82d2baa59a409f430b6cbb6"), looks := false }, kinds := [], alts := [], laidByText := true, laidKinds := [.data, .pinned], laidTests := true, laidLooks := .later }
def RepoDurableUptoCardSaid : Prop := Claim7.holds Tryz.pinned (.plain (OpenSpec.upto repoDurableSpec)) repoDurableUptoCard

/-- THE SECOND FORM's CARD OF 'cordwoodlaw12.RepoAtomic'. -/
def repoAtomicUptoCard : Claim7 := { stood := { row := repoAtomicUptoRow, standIns := [], harness := (true, "2329b2ec5e99fd1181a9005b15d4ca19368e55abd82d2baa59a409f430b6cbb6"), looks := false }, kinds := [], alts := [], laidByText := true, laidKinds := [.data, .pinned], laidTests := true, laidLooks := .later }
def RepoAtomicUptoCardSaid : Prop := Claim7.holds Tryz.pinned (.plain (OpenSpec.upto repoAtomicSpec)) repoAtomicUptoCard

/-- THE SECOND FORM's CARD OF 'cordwoodlaw12.RepoCommits'. -/
def repoCommitsUptoCard : Claim7 := { stood := { row := repoCommitsUptoRow, standIns := [], harness := (true, "2329b2ec5e99fd1181a9005b15d4ca19368e55abd82d2baa59a409f430b6cbb6"), looks := false }, kinds := [], alts := [], laidByText := true, laidKinds := [.data, .pinned], laidTests := true, laidLooks := .later }
def RepoCommitsUptoCardSaid : Prop := Claim7.holds Tryz.pinned (.plain (OpenSpec.upto repoCommitsSpec)) repoCommitsUptoCard

/-- THE SECOND FORM's CARD OF 'cordwoodlaw12.RepoComplete'. -/
def repoCompleteUptoCard : Claim7 := { stood := { row := repoCompleteUptoRow, standIns := [], harness := (true, "2329b2ec5e99fd1181a9005b15d4ca19368e55abd82d2baa59a409f430b6cbb6"), looks := false }, kinds := [], alts := [], laidByText := true, laidKinds := [.data, .pinned], laidTests := true, laidLooks := .later }
def RepoCompleteUptoCardSaid : Prop := Claim7.holds Tryz.pinned (.plain (OpenSpec.upto repoCompleteSpec)) repoCompleteUptoCard
end Rows
end Go.Proofs.YtknefelegjlgnaaGreatDoor
