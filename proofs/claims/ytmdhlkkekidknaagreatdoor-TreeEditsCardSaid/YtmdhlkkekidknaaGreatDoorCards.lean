/-
  DERIVED. GIVEN WITH THE SEED: THE CARDS: each row of YtmdhlkkekidknaaGreatDoorRows.lean that lists a variable, with what it lists TIED to the program's text (the seventh form; the later family's looks); each row that meets fmt, with fmt's text TOLD by the authors' own Lean function (tested against real Go, not proved from fmt's source: count such statements apart). THE CARD IS WHAT COUNTS. Prove the row's statement (the work); the ties are given (YtmdhlkkekidknaaGreatDoorTie.lean); close each card by the builder's one call (the guide's Derived/Test/ToyasCard.lean, 'card_holds'). Laid BY PROGRAM, IN A SANDBOX (cutbox-door.mjs). By AI agents, Wed Nov 11 2026. No macro, syntax, notation, axiom, sorry.
-/
import Derived.Test.YtmdhlkkekidknaaGreatDoorRows
import GoSem.ClaimSeven
namespace Go.Proofs.YtmdhlkkekidknaaGreatDoor
namespace Rows

/-- THE TIED CARD OF 'cordwoodlaw09.TreeStore'. -/
def treeStoreCard : Claim7 := { stood := { row := treeStoreRow, standIns := [], harness := (true, "e0f67ef2c99c414cc58cf2b2f7338a52d8aa80329ecf60933438f71e5e91d5a7"), looks := false }, kinds := [], alts := [], laidByText := true, laidKinds := [.data, .pinned], laidTests := true, laidLooks := .later }
def TreeStoreCardSaid : Prop := Claim7.holds Tryz.pinned (.plain (OpenSpec.ofChange treeStoreSpec)) treeStoreCard

/-- THE TIED CARD OF 'cordwoodlaw09.TreeSharing'. -/
def treeSharingCard : Claim7 := { stood := { row := treeSharingRow, standIns := [], harness := (true, "e0f67ef2c99c414cc58cf2b2f7338a52d8aa80329ecf60933438f71e5e91d5a7"), looks := false }, kinds := [], alts := [], laidByText := true, laidKinds := [.data, .pinned], laidTests := true, laidLooks := .later }
def TreeSharingCardSaid : Prop := Claim7.holds Tryz.pinned (.plain (OpenSpec.ofChange treeSharingSpec)) treeSharingCard

/-- THE TIED CARD OF 'cordwoodlaw09.TreeRoundTrip'. -/
def treeRoundTripCard : Claim7 := { stood := { row := treeRoundTripRow, standIns := [], harness := (true, "e0f67ef2c99c414cc58cf2b2f7338a52d8aa80329ecf60933438f71e5e91d5a7"), looks := false }, kinds := [], alts := [], laidByText := true, laidKinds := [.data, .pinned], laidTests := true, laidLooks := .later }
def TreeRoundTripCardSaid : Prop := Claim7.holds Tryz.pinned (.plain (OpenSpec.ofChange treeRoundTripSpec)) treeRoundTripCard

/-- THE TIED CARD OF 'cordwoodlaw09.TreeEdits'. -/
def treeEditsCard : Claim7 := { stood := { row := treeEditsRow, standIns := [], harness := (true, "e0f67ef2c99c414cc58cf2b2f7338a52d8aa80329ecf60933438f71e5e91d5a7"), looks := false }, kinds := [], alts := [], laidByText := true, laidKinds := [.data, .pinned], laidTests := true, laidLooks := .later }
def TreeEditsCardSaid : Prop := Claim7.holds Tryz.pinned (.plain (OpenSpec.ofChange treeEditsSpec)) treeEditsCard

/-- THE TIED CARD OF 'cordwoodlaw09.TreeOneFile'. -/
def treeOneFileCard : Claim7 := { stood := { row := treeOneFileRow, standIns := [], harness := (true, "e0f67ef2c99c414cc58cf2b2f7338a52d8aa80329ecf60933438f71e5e91d5a7"), looks := false }, kinds := [], alts := [], laidByText := true, laidKinds := [.data, .pinned], laidTests := true, laidLooks := .later }
def TreeOneFileCardSaid : Prop := Claim7.holds Tryz.pinned (.plain (OpenSpec.ofChange treeOneFileSpec)) treeOneFileCard

/-- THE TIED CARD OF 'cordwoodlaw09.TreeDigests'. -/
def treeDigestsCard : Claim7 := { stood := { row := treeDigestsRow, standIns := [], harness := (true, "e0f67ef2c99c414cc58cf2b2f7338a52d8aa80329ecf60933438f71e5e91d5a7"), looks := false }, kinds := [], alts := [], laidByText := true, laidKinds := [.data, .pinned], laidTests := true, laidLooks := .later }
def TreeDigestsCardSaid : Prop := Claim7.holds Tryz.pinned (.plain (OpenSpec.ofChange treeDigestsSpec)) treeDigestsCard

/-- THE TIED CARD OF 'cordwoodlaw09.TreeReads'. -/
def treeReadsCard : Claim7 := { stood := { row := treeReadsRow, standIns := [], harness := (true, "e0f67ef2c99c414cc58cf2b2f7338a52d8aa80329ecf60933438f71e5e91d5a7"), looks := false }, kinds := [], alts := [], laidByText := true, laidKinds := [.data, .pinned], laidTests := true, laidLooks := .later }
def TreeReadsCardSaid : Prop := Claim7.holds Tryz.pinned (.plain (OpenSpec.ofChange treeReadsSpec)) treeReadsCard

/-- THE TIED CARD OF 'cordwoodlaw09.TreeLists'. -/
def treeListsCard : Claim7 := { stood := { row := treeListsRow, standIns := [], harness := (true, "e0f67ef2c99c414cc58cf2b2f7338a52d8aa80329ecf60933438f71e5e91d5a7"), looks := false }, kinds := [], alts := [], laidByText := true, laidKinds := [.data, .pinned], laidTests := true, laidLooks := .later }
def TreeListsCardSaid : Prop := Claim7.holds Tryz.pinned (.plain (OpenSpec.ofChange treeListsSpec)) treeListsCard

/-- THE TIED CARD OF 'cordwoodlaw09.TreePatch'. -/
def treePatchCard : Claim7 := { stood := { row := treePatchRow, standIns := [], harness := (true, "e0f67ef2c99c414cc58cf2b2f7338a52d8aa80329ecf60933438f71e5e91d5a7"), looks := false }, kinds := [], alts := [], laidByText := true, laidKinds := [.data, .pinned], laidTests := true, laidLooks := .later }
def TreePatchCardSaid : Prop := Claim7.holds Tryz.pinned (.plain (OpenSpec.ofChange treePatchSpec)) treePatchCard

/-- THE SECOND FORM's CARD OF 'cordwoodlaw09.TreeStore'. -/
def treeStoreUptoCard : Claim7 := { stood := { row := treeStoreUptoRow, standIns := [], harness := (true, "e0f67ef2c99c414cc58cf2b2f7338a52d8aa80329ecf60933438f71e5e91d5a7"), looks := false }, kinds := [], alts := [], laidByText := true, laidKinds := [.data, .pinned], laidTests := true, laidLooks := .later }
def TreeStoreUptoCardSaid : Prop := Claim7.holds Tryz.pinned (.plain (OpenSpec.upto treeStoreSpec)) treeStoreUptoCard

/-- THE SECOND FORM's CARD OF 'cordwoodlaw09.TreeSharing'. -/
def treeSharingUptoCard : Claim7 := { stood := { row := treeSharingUptoRow, standIns := [], harness := (true, "e0f67ef2c99c414cc58cf2b2f7338a52d8aa80329ecf60933438f71e5e91d5a7"), looks := false }, kinds := [], alts := [], laidByText := true, laidKinds := [.data, .pinned], laidTests := true, laidLooks := .later }
def TreeSharingUptoCardSaid : Prop := Claim7.holds Tryz.pinned (.plain (OpenSpec.upto treeSharingSpec)) treeSharingUptoCard

/-- THE SECOND FORM's CARD OF 'cordwoodlaw09.TreeRoundTrip'. -/
def treeRoundTripUptoCard : Claim7 := { stood := { row := treeRoundTripUptoRow, standIns := [], harness := (true, "e0f67ef2c99c414cc58cf2b2f7338a52d8aa80329ecf60933438f71e5e91d5a7"), looks := false }, kinds := [], alts := [], laidByText := true, laidKinds := [.data, .pinned], laidTests := true, laidLooks := .later }
def TreeRoundTripUptoCardSaid : Prop := Claim7.holds Tryz.pinned (.plain (OpenSpec.upto treeRoundTripSpec)) treeRoundTripUptoCard

/-- THE SECOND FORM's CARD OF 'cordwoodlaw09.TreeEdits'. -/
def treeEditsUptoCard : Claim7 := { stood := { row := treeEditsUptoRow, standIns := [], harness := (true, "e0f67ef2c99c414cc58cf2b2f7338a52d8aa80329ecf60933438f71e5e91d5a7"), looks := false }, kinds := [], alts := [], laidByText := true, laidKinds := [.data, .pinned], laidTests := true, laidLooks := .later }
def TreeEditsUptoCardSaid : Prop := Claim7.holds Tryz.pinned (.plain (OpenSpec.upto treeEditsSpec)) treeEditsUptoCard

/-- THE SECOND FORM's CARD OF 'cordwoodlaw09.TreeOneFile'. -/
def treeOneFileUptoCard : Claim7 := { stood := { row := treeOneFileUptoRow, standIns := [], harness := (true, "e0f67ef2c99c414cc58cf2b2f7338a52d8aa80329ecf60933438f71e5e91d5a7"), looks := false }, kinds := [], alts := [], laidByText := true, laidKinds := [.data, .pinned], laidTests := true, laidLooks := .later }
def TreeOneFileUptoCardSaid : Prop := Claim7.holds Tryz.pinned (.plain (OpenSpec.upto treeOneFileSpec)) treeOneFileUptoCard

/-- THE SECOND FORM's CARD OF 'cordwoodlaw09.TreeDigests'. -/
def treeDigestsUptoCard : Claim7 := { stood := { row := treeDigestsUptoRow, standIns := [], harness := (true, "e0f67ef2c99c414cc58cf2b2f7338a52d8aa80329ecf60933438f71e5e91d5a7"), looks := false }, kinds := [], alts := [], laidByText := true, laidKinds := [.data, .pinned], laidTests := true, laidLooks := .later }
def TreeDigestsUptoCardSaid : Prop := Claim7.holds Tryz.pinned (.plain (OpenSpec.upto treeDigestsSpec)) treeDigestsUptoCard

/-- THE SECOND FORM's CARD OF 'cordwoodlaw09.TreeReads'. -/
def treeReadsUptoCard : Claim7 := { stood := { row := treeReadsUptoRow, standIns := [], harness := (true, "e0f67ef2c99c414cc58cf2b2f7338a52d8aa80329ecf60933438f71e5e91d5a7"), looks := false }, kinds := [], alts := [], laidByText := true, laidKinds := [.data, .pinned], laidTests := true, laidLooks := .later }
def TreeReadsUptoCardSaid : Prop := Claim7.holds Tryz.pinned (.plain (OpenSpec.upto treeReadsSpec)) treeReadsUptoCard

/-- THE SECOND FORM's CARD OF 'cordwoodlaw09.TreeLists'. -/
def treeListsUptoCard : Claim7 := { stood := { row := treeListsUptoRow, standIns := [], harness := (true, "e0f67ef2c99c414cc58cf2b2f7338a52d8aa80329ecf60933438f71e5e91d5a7"), looks := false }, kinds := [], alts := [], laidByText := true, laidKinds := [.data, .pinned], laidTests := true, laidLooks := .later }
def TreeListsUptoCardSaid : Prop := Claim7.holds Tryz.pinned (.plain (OpenSpec.upto treeListsSpec)) treeListsUptoCard

/-- THE SECOND FORM's CARD OF 'cordwoodlaw09.TreePatch'. -/
def treePatchUptoCard : Claim7 := { stood := { row := treePatchUptoRow, standIns := [], harness := (true, "e0f67ef2c99c414cc58cf2b2f7338a52d8aa80329ecf60933438f71e5e91d5a7"), looks := false }, kinds := [], alts := [], laidByText := true, laidKinds := [.data, .pinned], laidTests := true, laidLooks := .later }
def TreePatchUptoCardSaid : Prop := Claim7.holds Tryz.pinned (.plain (OpenSpec.upto treePatchSpec)) treePatchUptoCard
end Rows
end Go.Proofs.YtmdhlkkekidknaaGreatDoor
