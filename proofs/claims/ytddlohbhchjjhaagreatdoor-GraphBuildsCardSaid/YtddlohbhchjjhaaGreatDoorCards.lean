/-
  DERIVED. GIVEN WITH THE SEED: THE CARDS: each row of YtddlohbhchjjhaaGreatDoorRows.lean that lists a variable, with what it lists TIED to the program's text (the seventh form; the later family's looks); each row that meets fmt, with fmt's text TOLD by the authors' own Lean function (tested against real Go, not proved from fmt's source: count such statements apart). THE CARD IS WHAT COUNTS. Prove the row's statement (the work); the ties are given (YtddlohbhchjjhaaGreatDoorTie.lean); close each card by the builder's one call (the guide's Derived/Test/ToyasCard.lean, 'card_holds'). Laid BY PROGRAM, IN A SANDBOX (cutbox-door.mjs). By AI agents, Wed Nov 11 2026. No macro, syntax, notation, axiom, sorry.
-/
import Derived.Test.YtddlohbhchjjhaaGreatDoorRows
import GoSem.ClaimSeven
namespace Go.Proofs.YtddlohbhchjjhaaGreatDoor
namespace Rows

/-- THE TIED CARD OF 'cordwoodlaw39.GraphLoad'. -/
def graphLoadCard : Claim7 := { stood := { row := graphLoadRow, standIns := [], harness := (true, "9e4e3912b26b6f2d55eb70aaf3b847f1ab2026096c7e8a78f7327660f1d9ac8a"), looks := false }, kinds := [], alts := [], laidByText := true, laidKinds := [.data, .pinned], laidTests := true, laidLooks := .later }
def GraphLoadCardSaid : Prop := Claim7.holds Tryz.pinned (.plain (OpenSpec.ofChange graphLoadSpec)) graphLoadCard

/-- THE TIED CARD OF 'cordwoodlaw39.GraphCycle'. -/
def graphCycleCard : Claim7 := { stood := { row := graphCycleRow, standIns := [], harness := (true, "9e4e3912b26b6f2d55eb70aaf3b847f1ab2026096c7e8a78f7327660f1d9ac8a"), looks := false }, kinds := [], alts := [], laidByText := true, laidKinds := [.data, .pinned], laidTests := true, laidLooks := .later }
def GraphCycleCardSaid : Prop := Claim7.holds Tryz.pinned (.plain (OpenSpec.ofChange graphCycleSpec)) graphCycleCard

/-- THE TIED CARD OF 'cordwoodlaw39.GraphLoads'. -/
def graphLoadsCard : Claim7 := { stood := { row := graphLoadsRow, standIns := [], harness := (true, "9e4e3912b26b6f2d55eb70aaf3b847f1ab2026096c7e8a78f7327660f1d9ac8a"), looks := false }, kinds := [], alts := [], laidByText := true, laidKinds := [.data, .pinned], laidTests := true, laidLooks := .later }
def GraphLoadsCardSaid : Prop := Claim7.holds Tryz.pinned (.plain (OpenSpec.ofChange graphLoadsSpec)) graphLoadsCard

/-- THE TIED CARD OF 'cordwoodlaw39.GraphOrdered'. -/
def graphOrderedCard : Claim7 := { stood := { row := graphOrderedRow, standIns := [], harness := (true, "9e4e3912b26b6f2d55eb70aaf3b847f1ab2026096c7e8a78f7327660f1d9ac8a"), looks := false }, kinds := [], alts := [], laidByText := true, laidKinds := [.data, .pinned], laidTests := true, laidLooks := .later }
def GraphOrderedCardSaid : Prop := Claim7.holds Tryz.pinned (.plain (OpenSpec.ofChange graphOrderedSpec)) graphOrderedCard

/-- THE TIED CARD OF 'cordwoodlaw39.GraphCycles'. -/
def graphCyclesCard : Claim7 := { stood := { row := graphCyclesRow, standIns := [], harness := (true, "9e4e3912b26b6f2d55eb70aaf3b847f1ab2026096c7e8a78f7327660f1d9ac8a"), looks := false }, kinds := [], alts := [], laidByText := true, laidKinds := [.data, .pinned], laidTests := true, laidLooks := .later }
def GraphCyclesCardSaid : Prop := Claim7.holds Tryz.pinned (.plain (OpenSpec.ofChange graphCyclesSpec)) graphCyclesCard

/-- THE TIED CARD OF 'cordwoodlaw39.GraphReads'. -/
def graphReadsCard : Claim7 := { stood := { row := graphReadsRow, standIns := [], harness := (true, "9e4e3912b26b6f2d55eb70aaf3b847f1ab2026096c7e8a78f7327660f1d9ac8a"), looks := false }, kinds := [], alts := [], laidByText := true, laidKinds := [.data, .pinned], laidTests := true, laidLooks := .later }
def GraphReadsCardSaid : Prop := Claim7.holds Tryz.pinned (.plain (OpenSpec.ofChange graphReadsSpec)) graphReadsCard

/-- THE TIED CARD OF 'cordwoodlaw39.GraphInverse'. -/
def graphInverseCard : Claim7 := { stood := { row := graphInverseRow, standIns := [], harness := (true, "9e4e3912b26b6f2d55eb70aaf3b847f1ab2026096c7e8a78f7327660f1d9ac8a"), looks := false }, kinds := [], alts := [], laidByText := true, laidKinds := [.data, .pinned], laidTests := true, laidLooks := .later }
def GraphInverseCardSaid : Prop := Claim7.holds Tryz.pinned (.plain (OpenSpec.ofChange graphInverseSpec)) graphInverseCard

/-- THE TIED CARD OF 'cordwoodlaw39.GraphBuilds'. -/
def graphBuildsCard : Claim7 := { stood := { row := graphBuildsRow, standIns := [], harness := (true, "9e4e3912b26b6f2d55eb70aaf3b847f1ab2026096c7e8a78f7327660f1d9ac8a"), looks := false }, kinds := [], alts := [], laidByText := true, laidKinds := [.data, .pinned], laidTests := true, laidLooks := .later }
def GraphBuildsCardSaid : Prop := Claim7.holds Tryz.pinned (.plain (OpenSpec.ofChange graphBuildsSpec)) graphBuildsCard

/-- THE SECOND FORM's CARD OF 'cordwoodlaw39.GraphLoad'. -/
def graphLoadUptoCard : Claim7 := { stood := { row := graphLoadUptoRow, standIns := [], harness := (true, "9e4e3912b26b6f2d55eb70aaf3b847f1ab2026096c7e8a78f7327660f1d9ac8a"), looks := false }, kinds := [], alts := [], laidByText := true, laidKinds := [.data, .pinned], laidTests := true, laidLooks := .later }
def GraphLoadUptoCardSaid : Prop := Claim7.holds Tryz.pinned (.plain (OpenSpec.upto graphLoadSpec)) graphLoadUptoCard

/-- THE SECOND FORM's CARD OF 'cordwoodlaw39.GraphCycle'. -/
def graphCycleUptoCard : Claim7 := { stood := { row := graphCycleUptoRow, standIns := [], harness := (true, "9e4e3912b26b6f2d55eb70aaf3b847f1ab2026096c7e8a78f7327660f1d9ac8a"), looks := false }, kinds := [], alts := [], laidByText := true, laidKinds := [.data, .pinned], laidTests := true, laidLooks := .later }
def GraphCycleUptoCardSaid : Prop := Claim7.holds Tryz.pinned (.plain (OpenSpec.upto graphCycleSpec)) graphCycleUptoCard

/-- THE SECOND FORM's CARD OF 'cordwoodlaw39.GraphLoads'. -/
def graphLoadsUptoCard : Claim7 := { stood := { row := graphLoadsUptoRow, standIns := [], harness := (true, "9e4e3912b26b6f2d55eb70aaf3b847f1ab2026096c7e8a78f7327660f1d9ac8a"), looks := false }, kinds := [], alts := [], laidByText := true, laidKinds := [.data, .pinned], laidTests := true, laidLooks := .later }
def GraphLoadsUptoCardSaid : Prop := Claim7.holds Tryz.pinned (.plain (OpenSpec.upto graphLoadsSpec)) graphLoadsUptoCard

/-- THE SECOND FORM's CARD OF 'cordwoodlaw39.GraphOrdered'. -/
def graphOrderedUptoCard : Claim7 := { stood := { row := graphOrderedUptoRow, standIns := [], harness := (true, "9e4e3912b26b6f2d55eb70aaf3b847f1ab2026096c7e8a78f7327660f1d9ac8a"), looks := false }, kinds := [], alts := [], laidByText := true, laidKinds := [.data, .pinned], laidTests := true, laidLooks := .later }
def GraphOrderedUptoCardSaid : Prop := Claim7.holds Tryz.pinned (.plain (OpenSpec.upto graphOrderedSpec)) graphOrderedUptoCard

/-- THE SECOND FORM's CARD OF 'cordwoodlaw39.GraphCycles'. -/
def graphCyclesUptoCard : Claim7 := { stood := { row := graphCyclesUptoRow, standIns := [], harness := (true, "9e4e3912b26b6f2d55eb70aaf3b847f1ab2026096c7e8a78f7327660f1d9ac8a"), looks := false }, kinds := [], alts := [], laidByText := true, laidKinds := [.data, .pinned], laidTests := true, laidLooks := .later }
def GraphCyclesUptoCardSaid : Prop := Claim7.holds Tryz.pinned (.plain (OpenSpec.upto graphCyclesSpec)) graphCyclesUptoCard

/-- THE SECOND FORM's CARD OF 'cordwoodlaw39.GraphReads'. -/
def graphReadsUptoCard : Claim7 := { stood := { row := graphReadsUptoRow, standIns := [], harness := (true, "9e4e3912b26b6f2d55eb70aaf3b847f1ab2026096c7e8a78f7327660f1d9ac8a"), looks := false }, kinds := [], alts := [], laidByText := true, laidKinds := [.data, .pinned], laidTests := true, laidLooks := .later }
def GraphReadsUptoCardSaid : Prop := Claim7.holds Tryz.pinned (.plain (OpenSpec.upto graphReadsSpec)) graphReadsUptoCard

/-- THE SECOND FORM's CARD OF 'cordwoodlaw39.GraphInverse'. -/
def graphInverseUptoCard : Claim7 := { stood := { row := graphInverseUptoRow, standIns := [], harness := (true, "9e4e3912b26b6f2d55eb70aaf3b847f1ab2026096c7e8a78f7327660f1d9ac8a"), looks := false }, kinds := [], alts := [], laidByText := true, laidKinds := [.data, .pinned], laidTests := true, laidLooks := .later }
def GraphInverseUptoCardSaid : Prop := Claim7.holds Tryz.pinned (.plain (OpenSpec.upto graphInverseSpec)) graphInverseUptoCard

/-- THE SECOND FORM's CARD OF 'cordwoodlaw39.GraphBuilds'. -/
def graphBuildsUptoCard : Claim7 := { stood := { row := graphBuildsUptoRow, standIns := [], harness := (true, "9e4e3912b26b6f2d55eb70aaf3b847f1ab2026096c7e8a78f7327660f1d9ac8a"), looks := false }, kinds := [], alts := [], laidByText := true, laidKinds := [.data, .pinned], laidTests := true, laidLooks := .later }
def GraphBuildsUptoCardSaid : Prop := Claim7.holds Tryz.pinned (.plain (OpenSpec.upto graphBuildsSpec)) graphBuildsUptoCard
end Rows
end Go.Proofs.YtddlohbhchjjhaaGreatDoor
