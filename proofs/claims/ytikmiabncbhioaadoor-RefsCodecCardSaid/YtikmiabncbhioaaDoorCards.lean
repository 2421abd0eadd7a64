/-
  DERIVED. GIVEN WITH THE SEED: THE CARDS: each row of YtikmiabncbhioaaDoorRows.lean that lists a variable, with what it lists TIED to the program's text (the seventh form; the later family's looks); each row that meets fmt, with fmt's text TOLD by the authors' own Lean function (tested against real Go, not proved from fmt's source: count such statements apart). THE CARD IS WHAT COUNTS. Prove the row's statement (the work); the ties are given (YtikmiabncbhioaaDoorTie.lean); close each card by the builder's one call (the guide's Derived/Test/ToyasCard.lean, 'card_holds'). Laid BY PROGRAM, IN A SANDBOX (cutbox-door.mjs). By AI agents, Wed Nov 11 2026. No macro, syntax, notation, axiom, sorry.
-/
import Derived.Test.YtikmiabncbhioaaDoorRows
import GoSem.ClaimSeven
namespace Go.Proofs.YtikmiabncbhioaaDoor
namespace Rows

/-- THE TIED CARD OF 'cordwoodlaw11.RefsUpdate'. -/
def refsUpdateCard : Claim7 := { stood := { row := refsUpdateRow, standIns := [], harness := (true, "1fbddb92093508e2c3cb184e2f0d4afb7a0b28802f12833234371cba66c0caac"), looks := false }, kinds := [], alts := [], laidByText := true, laidKinds := [.data, .pinned], laidTests := true, laidLooks := .later }
def RefsUpdateCardSaid : Prop := Claim7.holds Tryd.pinned (.plain (OpenSpec.ofChange refsUpdateSpec)) refsUpdateCard

/-- THE TIED CARD OF 'cordwoodlaw11.RefsUndo'. -/
def refsUndoCard : Claim7 := { stood := { row := refsUndoRow, standIns := [], harness := (true, "1fbddb92093508e2c3cb184e2f0d4afb7a0b28802f12833234371cba66c0caac"), looks := false }, kinds := [], alts := [], laidByText := true, laidKinds := [.data, .pinned], laidTests := true, laidLooks := .later }
def RefsUndoCardSaid : Prop := Claim7.holds Tryd.pinned (.plain (OpenSpec.ofChange refsUndoSpec)) refsUndoCard

/-- THE TIED CARD OF 'cordwoodlaw11.RefsAtomic'. -/
def refsAtomicCard : Claim7 := { stood := { row := refsAtomicRow, standIns := [], harness := (true, "1fbddb92093508e2c3cb184e2f0d4afb7a0b28802f12833234371cba66c0caac"), looks := false }, kinds := [], alts := [], laidByText := true, laidKinds := [.data, .pinned], laidTests := true, laidLooks := .later }
def RefsAtomicCardSaid : Prop := Claim7.holds Tryd.pinned (.plain (OpenSpec.ofChange refsAtomicSpec)) refsAtomicCard

/-- THE TIED CARD OF 'cordwoodlaw11.RefsLog'. -/
def refsLogCard : Claim7 := { stood := { row := refsLogRow, standIns := [], harness := (true, "1fbddb92093508e2c3cb184e2f0d4afb7a0b28802f12833234371cba66c0caac"), looks := false }, kinds := [], alts := [], laidByText := true, laidKinds := [.data, .pinned], laidTests := true, laidLooks := .later }
def RefsLogCardSaid : Prop := Claim7.holds Tryd.pinned (.plain (OpenSpec.ofChange refsLogSpec)) refsLogCard

/-- THE TIED CARD OF 'cordwoodlaw11.RefsCompares'. -/
def refsComparesCard : Claim7 := { stood := { row := refsComparesRow, standIns := [], harness := (true, "1fbddb92093508e2c3cb184e2f0d4afb7a0b28802f12833234371cba66c0caac"), looks := false }, kinds := [], alts := [], laidByText := true, laidKinds := [.data, .pinned], laidTests := true, laidLooks := .later }
def RefsComparesCardSaid : Prop := Claim7.holds Tryd.pinned (.plain (OpenSpec.ofChange refsComparesSpec)) refsComparesCard

/-- THE TIED CARD OF 'cordwoodlaw11.RefsCheck'. -/
def refsCheckCard : Claim7 := { stood := { row := refsCheckRow, standIns := [], harness := (true, "1fbddb92093508e2c3cb184e2f0d4afb7a0b28802f12833234371cba66c0caac"), looks := false }, kinds := [], alts := [], laidByText := true, laidKinds := [.data, .pinned], laidTests := true, laidLooks := .later }
def RefsCheckCardSaid : Prop := Claim7.holds Tryd.pinned (.plain (OpenSpec.ofChange refsCheckSpec)) refsCheckCard

/-- THE TIED CARD OF 'cordwoodlaw11.RefsCodec'. -/
def refsCodecCard : Claim7 := { stood := { row := refsCodecRow, standIns := [], harness := (true, "1fbddb92093508e2c3cb184e2f0d4afb7a0b28802f12833234371cba66c0caac"), looks := false }, kinds := [], alts := [], laidByText := true, laidKinds := [.data, .pinned], laidTests := true, laidLooks := .later }
def RefsCodecCardSaid : Prop := Claim7.holds Tryd.pinned (.plain (OpenSpec.ofChange refsCodecSpec)) refsCodecCard

/-- THE TIED CARD OF 'cordwoodlaw11.RefsRoundTrip'. -/
def refsRoundTripCard : Claim7 := { stood := { row := refsRoundTripRow, standIns := [], harness := (true, "1fbddb92093508e2c3cb184e2f0d4afb7a0b28802f12833234371cba66c0caac"), looks := false }, kinds := [], alts := [], laidByText := true, laidKinds := [.data, .pinned], laidTests := true, laidLooks := .later }
def RefsRoundTripCardSaid : Prop := Claim7.holds Tryd.pinned (.plain (OpenSpec.ofChange refsRoundTripSpec)) refsRoundTripCard

/-- THE SECOND FORM's CARD OF 'cordwoodlaw11.RefsUpdate'. -/
def refsUpdateUptoCard : Claim7 := { stood := { row := refsUpdateUptoRow, standIns := [], harness := (true, "1fbddb92093508e2c3cb184e2f0d4afb7a0b28802f12833234371cba66c0caac"), looks := false }, kinds := [], alts := [], laidByText := true, laidKinds := [.data, .pinned], laidTests := true, laidLooks := .later }
def RefsUpdateUptoCardSaid : Prop := Claim7.holds Tryd.pinned (.plain (OpenSpec.upto refsUpdateSpec)) refsUpdateUptoCard

/-- THE SECOND FORM's CARD OF 'cordwoodlaw11.RefsUndo'. -/
def refsUndoUptoCard : Claim7 := { stood := { row := refsUndoUptoRow, standIns := [], harness := (true, "1fbddb92093508e2c3cb184e2f0d4afb7a0b28802f12833234371cba66c0caac"), looks := false }, kinds := [], alts := [], laidByText := true, laidKinds := [.data, .pinned], laidTests := true, laidLooks := .later }
def RefsUndoUptoCardSaid : Prop := Claim7.holds Tryd.pinned (.plain (OpenSpec.upto refsUndoSpec)) refsUndoUptoCard

/-- THE SECOND FORM's CARD OF 'cordwoodlaw11.RefsAtomic'. -/
def refsAtomicUptoCard : Claim7 := { stood := { row := refsAtomicUptoRow, standIns := [], harness := (true, "1fbddb92093508e2c3cb184e2f0d4afb7a0b28802f12833234371cba66c0caac"), looks := false }, kinds := [], alts := [], laidByText := true, laidKinds := [.data, .pinned], laidTests := true, laidLooks := .later }
def RefsAtomicUptoCardSaid : Prop := Claim7.holds Tryd.pinned (.plain (OpenSpec.upto refsAtomicSpec)) refsAtomicUptoCard

/-- THE SECOND FORM's CARD OF 'cordwoodlaw11.RefsLog'. -/
def refsLogUptoCard : Claim7 := { stood := { row := refsLogUptoRow, standIns := [], harness := (true, "1fbddb92093508e2c3cb184e2f0d4afb7a0b28802f12833234371cba66c0caac"), looks := false }, kinds := [], alts := [], laidByText := true, laidKinds := [.data, .pinned], laidTests := true, laidLooks := .later }
def RefsLogUptoCardSaid : Prop := Claim7.holds Tryd.pinned (.plain (OpenSpec.upto refsLogSpec)) refsLogUptoCard

/-- THE SECOND FORM's CARD OF 'cordwoodlaw11.RefsCompares'. -/
def refsComparesUptoCard : Claim7 := { stood := { row := refsComparesUptoRow, standIns := [], harness := (true, "1fbddb92093508e2c3cb184e2f0d4afb7a0b28802f12833234371cba66c0caac"), looks := false }, kinds := [], alts := [], laidByText := true, laidKinds := [.data, .pinned], laidTests := true, laidLooks := .later }
def RefsComparesUptoCardSaid : Prop := Claim7.holds Tryd.pinned (.plain (OpenSpec.upto refsComparesSpec)) refsComparesUptoCard

/-- THE SECOND FORM's CARD OF 'cordwoodlaw11.RefsCheck'. -/
def refsCheckUptoCard : Claim7 := { stood := { row := refsCheckUptoRow, standIns := [], harness := (true, "1fbddb92093508e2c3cb184e2f0d4afb7a0b28802f12833234371cba66c0caac"), looks := false }, kinds := [], alts := [], laidByText := true, laidKinds := [.data, .pinned], laidTests := true, laidLooks := .later }
def RefsCheckUptoCardSaid : Prop := Claim7.holds Tryd.pinned (.plain (OpenSpec.upto refsCheckSpec)) refsCheckUptoCard

/-- THE SECOND FORM's CARD OF 'cordwoodlaw11.RefsCodec'. -/
def refsCodecUptoCard : Claim7 := { stood := { row := refsCodecUptoRow, standIns := [], harness := (true, "1fbddb92093508e2c3cb184e2f0d4afb7a0b28802f12833234371cba66c0caac"), looks := false }, kinds := [], alts := [], laidByText := true, laidKinds := [.data, .pinned], laidTests := true, laidLooks := .later }
def RefsCodecUptoCardSaid : Prop := Claim7.holds Tryd.pinned (.plain (OpenSpec.upto refsCodecSpec)) refsCodecUptoCard

/-- THE SECOND FORM's CARD OF 'cordwoodlaw11.RefsRoundTrip'. -/
def refsRoundTripUptoCard : Claim7 := { stood := { row := refsRoundTripUptoRow, standIns := [], harness := (true, "1fbddb92093508e2c3cb184e2f0d4afb7a0b28802f12833234371cba66c0caac"), looks := false }, kinds := [], alts := [], laidByText := true, laidKinds := [.data, .pinned], laidTests := true, laidLooks := .later }
def RefsRoundTripUptoCardSaid : Prop := Claim7.holds Tryd.pinned (.plain (OpenSpec.upto refsRoundTripSpec)) refsRoundTripUptoCard
end Rows
end Go.Proofs.YtikmiabncbhioaaDoor
