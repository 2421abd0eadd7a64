/-
  DERIVED. GIVEN WITH THE SEED: THE CARDS: each row of YtlcecobipgmafaaGreatDoorRows.lean that lists a variable, with what it lists TIED to the program's text (the seventh form; the later family's looks); each row that meets fmt, with fmt's text TOLD by the authors' own Lean function (tested against real Go, not proved from fmt's source: count such statements apart). THE CARD IS WHAT COUNTS. Prove the row's statement (the work); the ties are given (YtlcecobipgmafaaGreatDoorTie.lean); close each card by the builder's one call (the guide's Derived/Test/ToyasCard.lean, 'card_holds'). Laid BY PROGRAM, IN A SANDBOX (cutbox-door.mjs). By AI agents, Wed Nov 11 2026. No macro, syntax, notation, axiom, sorry.
-/
import Derived.Test.YtlcecobipgmafaaGreatDoorRows
import GoSem.ClaimSeven
namespace Go.Proofs.YtlcecobipgmafaaGreatDoor
namespace Rows

/-- THE TIED CARD OF 'cordwoodlaw14.PartialNeeded'. -/
def partialNeededCard : Claim7 := { stood := { row := partialNeededRow, standIns := [], harness := (true, "febbcdd23eb72ebd2558cc3748a47c1f01d7ccbf5a68e647cc3b30797d03ed59"), looks := false }, kinds := [], alts := [], laidByText := true, laidKinds := [.data, .pinned], laidTests := true, laidLooks := .later }
def PartialNeededCardSaid : Prop := Claim7.holds Tryz.pinned (.plain (OpenSpec.ofChange partialNeededSpec)) partialNeededCard

/-- THE TIED CARD OF 'cordwoodlaw14.PartialComplete'. -/
def partialCompleteCard : Claim7 := { stood := { row := partialCompleteRow, standIns := [], harness := (true, "febbcdd23eb72ebd2558cc3748a47c1f01d7ccbf5a68e647cc3b30797d03ed59"), looks := false }, kinds := [], alts := [], laidByText := true, laidKinds := [.data, .pinned], laidTests := true, laidLooks := .later }
def PartialCompleteCardSaid : Prop := Claim7.holds Tryz.pinned (.plain (OpenSpec.ofChange partialCompleteSpec)) partialCompleteCard

/-- THE TIED CARD OF 'cordwoodlaw14.PartialGrowth'. -/
def partialGrowthCard : Claim7 := { stood := { row := partialGrowthRow, standIns := [], harness := (true, "febbcdd23eb72ebd2558cc3748a47c1f01d7ccbf5a68e647cc3b30797d03ed59"), looks := false }, kinds := [], alts := [], laidByText := true, laidKinds := [.data, .pinned], laidTests := true, laidLooks := .later }
def PartialGrowthCardSaid : Prop := Claim7.holds Tryz.pinned (.plain (OpenSpec.ofChange partialGrowthSpec)) partialGrowthCard

/-- THE TIED CARD OF 'cordwoodlaw14.PartialWhole'. -/
def partialWholeCard : Claim7 := { stood := { row := partialWholeRow, standIns := [], harness := (true, "febbcdd23eb72ebd2558cc3748a47c1f01d7ccbf5a68e647cc3b30797d03ed59"), looks := false }, kinds := [], alts := [], laidByText := true, laidKinds := [.data, .pinned], laidTests := true, laidLooks := .later }
def PartialWholeCardSaid : Prop := Claim7.holds Tryz.pinned (.plain (OpenSpec.ofChange partialWholeSpec)) partialWholeCard

/-- THE SECOND FORM's CARD OF 'cordwoodlaw14.PartialNeeded'. -/
def partialNeededUptoCard : Claim7 := { stood := { row := partialNeededUptoRow, standIns := [], harness := (true, "febbcdd23eb72ebd2558cc3748a47c1f01d7ccbf5a68e647cc3b30797d03ed59"), looks := false }, kinds := [], alts := [], laidByText := true, laidKinds := [.data, .pinned], laidTests := true, laidLooks := .later }
def PartialNeededUptoCardSaid : Prop := Claim7.holds Tryz.pinned (.plain (OpenSpec.upto partialNeededSpec)) partialNeededUptoCard

/-- THE SECOND FORM's CARD OF 'cordwoodlaw14.PartialComplete'. -/
def partialCompleteUptoCard : Claim7 := { stood := { row := partialCompleteUptoRow, standIns := [], harness := (true, "febbcdd23eb72ebd2558cc3748a47c1f01d7ccbf5a68e647cc3b30797d03ed59"), looks := false }, kinds := [], alts := [], laidByText := true, laidKinds := [.data, .pinned], laidTests := true, laidLooks := .later }
def PartialCompleteUptoCardSaid : Prop := Claim7.holds Tryz.pinned (.plain (OpenSpec.upto partialCompleteSpec)) partialCompleteUptoCard

/-- THE SECOND FORM's CARD OF 'cordwoodlaw14.PartialGrowth'. -/
def partialGrowthUptoCard : Claim7 := { stood := { row := partialGrowthUptoRow, standIns := [], harness := (true, "febbcdd23eb72ebd2558cc3748a47c1f01d7ccbf5a68e647cc3b30797d03ed59"), looks := false }, kinds := [], alts := [], laidByText := true, laidKinds := [.data, .pinned], laidTests := true, laidLooks := .later }
def PartialGrowthUptoCardSaid : Prop := Claim7.holds Tryz.pinned (.plain (OpenSpec.upto partialGrowthSpec)) partialGrowthUptoCard

/-- THE SECOND FORM's CARD OF 'cordwoodlaw14.PartialWhole'. -/
def partialWholeUptoCard : Claim7 := { stood := { row := partialWholeUptoRow, standIns := [], harness := (true, "febbcdd23eb72ebd2558cc3748a47c1f01d7ccbf5a68e647cc3b30797d03ed59"), looks := false }, kinds := [], alts := [], laidByText := true, laidKinds := [.data, .pinned], laidTests := true, laidLooks := .later }
def PartialWholeUptoCardSaid : Prop := Claim7.holds Tryz.pinned (.plain (OpenSpec.upto partialWholeSpec)) partialWholeUptoCard
end Rows
end Go.Proofs.YtlcecobipgmafaaGreatDoor
