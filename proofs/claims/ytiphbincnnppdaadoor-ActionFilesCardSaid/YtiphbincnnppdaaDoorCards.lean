/-
  DERIVED. GIVEN WITH THE SEED: THE CARDS: each row of YtiphbincnnppdaaDoorRows.lean that lists a variable, with what it lists TIED to the program's text (the seventh form; the later family's looks); each row that meets fmt, with fmt's text TOLD by the authors' own Lean function (tested against real Go, not proved from fmt's source: count such statements apart). THE CARD IS WHAT COUNTS. Prove the row's statement (the work); the ties are given (YtiphbincnnppdaaDoorTie.lean); close each card by the builder's one call (the guide's Derived/Test/ToyasCard.lean, 'card_holds'). Laid BY PROGRAM, IN A SANDBOX (cutbox-door.mjs). By AI agents, Wed Nov 11 2026. No macro, syntax, notation, axiom, sorry.
-/
import Derived.Test.YtiphbincnnppdaaDoorRows
import GoSem.ClaimSeven
namespace Go.Proofs.YtiphbincnnppdaaDoor
namespace Rows

/-- THE TIED CARD OF 'cordwoodlaw41.ActionInputs'. -/
def actionInputsCard : Claim7 := { stood := { row := actionInputsRow, standIns := [], harness := (true, "5baefaa40b52431ba3ed9bd2370631c9b04433edf401dc0c71a19def2f566fe6"), looks := false }, kinds := [], alts := [], laidByText := true, laidKinds := [.data, .pinned], laidTests := true, laidLooks := .later }
def ActionInputsCardSaid : Prop := Claim7.holds Tryd.pinned (.plain (OpenSpec.ofChange actionInputsSpec)) actionInputsCard

/-- THE TIED CARD OF 'cordwoodlaw41.ActionReads'. -/
def actionReadsCard : Claim7 := { stood := { row := actionReadsRow, standIns := [], harness := (true, "5baefaa40b52431ba3ed9bd2370631c9b04433edf401dc0c71a19def2f566fe6"), looks := false }, kinds := [], alts := [], laidByText := true, laidKinds := [.data, .pinned], laidTests := true, laidLooks := .later }
def ActionReadsCardSaid : Prop := Claim7.holds Tryd.pinned (.plain (OpenSpec.ofChange actionReadsSpec)) actionReadsCard

/-- THE TIED CARD OF 'cordwoodlaw41.ActionFiles'. -/
def actionFilesCard : Claim7 := { stood := { row := actionFilesRow, standIns := [], harness := (true, "5baefaa40b52431ba3ed9bd2370631c9b04433edf401dc0c71a19def2f566fe6"), looks := false }, kinds := [], alts := [], laidByText := true, laidKinds := [.data, .pinned], laidTests := true, laidLooks := .later }
def ActionFilesCardSaid : Prop := Claim7.holds Tryd.pinned (.plain (OpenSpec.ofChange actionFilesSpec)) actionFilesCard

/-- THE TIED CARD OF 'cordwoodlaw41.ActionRoundTrip'. -/
def actionRoundTripCard : Claim7 := { stood := { row := actionRoundTripRow, standIns := [], harness := (true, "5baefaa40b52431ba3ed9bd2370631c9b04433edf401dc0c71a19def2f566fe6"), looks := false }, kinds := [], alts := [], laidByText := true, laidKinds := [.data, .pinned], laidTests := true, laidLooks := .later }
def ActionRoundTripCardSaid : Prop := Claim7.holds Tryd.pinned (.plain (OpenSpec.ofChange actionRoundTripSpec)) actionRoundTripCard

/-- THE SECOND FORM's CARD OF 'cordwoodlaw41.ActionInputs'. -/
def actionInputsUptoCard : Claim7 := { stood := { row := actionInputsUptoRow, standIns := [], harness := (true, "5baefaa40b52431ba3ed9bd2370631c9b04433edf401dc0c71a19def2f566fe6"), looks := false }, kinds := [], alts := [], laidByText := true, laidKinds := [.data, .pinned], laidTests := true, laidLooks := .later }
def ActionInputsUptoCardSaid : Prop := Claim7.holds Tryd.pinned (.plain (OpenSpec.upto actionInputsSpec)) actionInputsUptoCard

/-- THE SECOND FORM's CARD OF 'cordwoodlaw41.ActionReads'. -/
def actionReadsUptoCard : Claim7 := { stood := { row := actionReadsUptoRow, standIns := [], harness := (true, "5baefaa40b52431ba3ed9bd2370631c9b04433edf401dc0c71a19def2f566fe6"), looks := false }, kinds := [], alts := [], laidByText := true, laidKinds := [.data, .pinned], laidTests := true, laidLooks := .later }
def ActionReadsUptoCardSaid : Prop := Claim7.holds Tryd.pinned (.plain (OpenSpec.upto actionReadsSpec)) actionReadsUptoCard

/-- THE SECOND FORM's CARD OF 'cordwoodlaw41.ActionFiles'. -/
def actionFilesUptoCard : Claim7 := { stood := { row := actionFilesUptoRow, standIns := [], harness := (true, "5baefaa40b52431ba3ed9bd2370631c9b04433edf401dc0c71a19def2f566fe6"), looks := false }, kinds := [], alts := [], laidByText := true, laidKinds := [.data, .pinned], laidTests := true, laidLooks := .later }
def ActionFilesUptoCardSaid : Prop := Claim7.holds Tryd.pinned (.plain (OpenSpec.upto actionFilesSpec)) actionFilesUptoCard

/-- THE SECOND FORM's CARD OF 'cordwoodlaw41.ActionRoundTrip'. -/
def actionRoundTripUptoCard : Claim7 := { stood := { row := actionRoundTripUptoRow, standIns := [], harness := (true, "5baefaa40b52431ba3ed9bd2370631c9b04433edf401dc0c71a19def2f566fe6"), looks := false }, kinds := [], alts := [], laidByText := true, laidKinds := [.data, .pinned], laidTests := true, laidLooks := .later }
def ActionRoundTripUptoCardSaid : Prop := Claim7.holds Tryd.pinned (.plain (OpenSpec.upto actionRoundTripSpec)) actionRoundTripUptoCard
end Rows
end Go.Proofs.YtiphbincnnppdaaDoor
