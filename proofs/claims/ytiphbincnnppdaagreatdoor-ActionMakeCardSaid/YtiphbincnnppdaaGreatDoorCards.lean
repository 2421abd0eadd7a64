/-
  DERIVED. GIVEN WITH THE SEED: THE CARDS: each row of YtiphbincnnppdaaGreatDoorRows.lean that lists a variable, with what it lists TIED to the program's text (the seventh form; the later family's looks); each row that meets fmt, with fmt's text TOLD by the authors' own Lean function (tested against real Go, not proved from fmt's source: count such statements apart). THE CARD IS WHAT COUNTS. Prove the row's statement (the work); the ties are given (YtiphbincnnppdaaGreatDoorTie.lean); close each card by the builder's one call (the guide's Derived/Test/ToyasCard.lean, 'card_holds'). Laid BY PROGRAM, IN A SANDBOX (cutbox-door.mjs). By AI agents, Wed Nov 11 2026. No macro, syntax, notation, axiom, sorry.
-/
import Derived.Test.YtiphbincnnppdaaGreatDoorRows
import GoSem.ClaimSeven
namespace Go.Proofs.YtiphbincnnppdaaGreatDoor
namespace Rows

/-- THE TIED CARD OF 'cordwoodlaw41.ActionMake'. -/
def actionMakeCard : Claim7 := { stood := { row := actionMakeRow, standIns := [], harness := (true, "b267585c382855f5ad06517a9657bdef0fbb9cfdf5922c75a0db8a39390f7b9f"), looks := false }, kinds := [], alts := [], laidByText := true, laidKinds := [.data, .pinned], laidTests := true, laidLooks := .later }
def ActionMakeCardSaid : Prop := Claim7.holds Tryz.pinned (.plain (OpenSpec.ofChange actionMakeSpec)) actionMakeCard

/-- THE TIED CARD OF 'cordwoodlaw41.ActionKey'. -/
def actionKeyCard : Claim7 := { stood := { row := actionKeyRow, standIns := [], harness := (true, "b267585c382855f5ad06517a9657bdef0fbb9cfdf5922c75a0db8a39390f7b9f"), looks := false }, kinds := [], alts := [], laidByText := true, laidKinds := [.data, .pinned], laidTests := true, laidLooks := .later }
def ActionKeyCardSaid : Prop := Claim7.holds Tryz.pinned (.plain (OpenSpec.ofChange actionKeySpec)) actionKeyCard

/-- THE TIED CARD OF 'cordwoodlaw41.ActionDifferent'. -/
def actionDifferentCard : Claim7 := { stood := { row := actionDifferentRow, standIns := [], harness := (true, "b267585c382855f5ad06517a9657bdef0fbb9cfdf5922c75a0db8a39390f7b9f"), looks := false }, kinds := [], alts := [], laidByText := true, laidKinds := [.data, .pinned], laidTests := true, laidLooks := .later }
def ActionDifferentCardSaid : Prop := Claim7.holds Tryz.pinned (.plain (OpenSpec.ofChange actionDifferentSpec)) actionDifferentCard

/-- THE TIED CARD OF 'cordwoodlaw41.ActionOutputs'. -/
def actionOutputsCard : Claim7 := { stood := { row := actionOutputsRow, standIns := [], harness := (true, "b267585c382855f5ad06517a9657bdef0fbb9cfdf5922c75a0db8a39390f7b9f"), looks := false }, kinds := [], alts := [], laidByText := true, laidKinds := [.data, .pinned], laidTests := true, laidLooks := .later }
def ActionOutputsCardSaid : Prop := Claim7.holds Tryz.pinned (.plain (OpenSpec.ofChange actionOutputsSpec)) actionOutputsCard

/-- THE SECOND FORM's CARD OF 'cordwoodlaw41.ActionMake'. -/
def actionMakeUptoCard : Claim7 := { stood := { row := actionMakeUptoRow, standIns := [], harness := (true, "b267585c382855f5ad06517a9657bdef0fbb9cfdf5922c75a0db8a39390f7b9f"), looks := false }, kinds := [], alts := [], laidByText := true, laidKinds := [.data, .pinned], laidTests := true, laidLooks := .later }
def ActionMakeUptoCardSaid : Prop := Claim7.holds Tryz.pinned (.plain (OpenSpec.upto actionMakeSpec)) actionMakeUptoCard

/-- THE SECOND FORM's CARD OF 'cordwoodlaw41.ActionKey'. -/
def actionKeyUptoCard : Claim7 := { stood := { row := actionKeyUptoRow, standIns := [], harness := (true, "b267585c382855f5ad06517a9657bdef0fbb9cfdf5922c75a0db8a39390f7b9f"), looks := false }, kinds := [], alts := [], laidByText := true, laidKinds := [.data, .pinned], laidTests := true, laidLooks := .later }
def ActionKeyUptoCardSaid : Prop := Claim7.holds Tryz.pinned (.plain (OpenSpec.upto actionKeySpec)) actionKeyUptoCard

/-- THE SECOND FORM's CARD OF 'cordwoodlaw41.ActionDifferent'. -/
def actionDifferentUptoCard : Claim7 := { stood := { row := actionDifferentUptoRow, standIns := [], harness := (true, "b267585c382855f5ad06517a9657bdef0fbb9cfdf5922c75a0db8a39390f7b9f"), looks := false }, kinds := [], alts := [], laidByText := true, laidKinds := [.data, .pinned], laidTests := true, laidLooks := .later }
def ActionDifferentUptoCardSaid : Prop := Claim7.holds Tryz.pinned (.plain (OpenSpec.upto actionDifferentSpec)) actionDifferentUptoCard

/-- THE SECOND FORM's CARD OF 'cordwoodlaw41.ActionOutputs'. -/
def actionOutputsUptoCard : Claim7 := { stood := { row := actionOutputsUptoRow, standIns := [], harness := (true, "b267585c382855f5ad06517a9657bdef0fbb9cfdf5922c75a0db8a39390f7b9f"), looks := false }, kinds := [], alts := [], laidByText := true, laidKinds := [.data, .pinned], laidTests := true, laidLooks := .later }
def ActionOutputsUptoCardSaid : Prop := Claim7.holds Tryz.pinned (.plain (OpenSpec.upto actionOutputsSpec)) actionOutputsUptoCard
end Rows
end Go.Proofs.YtiphbincnnppdaaGreatDoor
