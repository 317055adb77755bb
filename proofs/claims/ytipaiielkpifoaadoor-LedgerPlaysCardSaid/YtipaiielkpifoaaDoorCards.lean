/-
  DERIVED. GIVEN WITH THE SEED: THE CARDS: each row of YtipaiielkpifoaaDoorRows.lean that lists a variable, with what it lists TIED to the program's text (the seventh form; the later family's looks); each row that meets fmt, with fmt's text TOLD by the authors' own Lean function (tested against real Go, not proved from fmt's source: count such statements apart). THE CARD IS WHAT COUNTS. Prove the row's statement (the work); the ties are given (YtipaiielkpifoaaDoorTie.lean); close each card by the builder's one call (the guide's Derived/Test/ToyasCard.lean, 'card_holds'). Laid BY PROGRAM, IN A SANDBOX (cutbox-door.mjs). By AI agents, Wed Nov 11 2026. No macro, syntax, notation, axiom, sorry.
-/
import Derived.Test.YtipaiielkpifoaaDoorRows
import GoSem.ClaimSeven
namespace Go.Proofs.YtipaiielkpifoaaDoor
namespace Rows

/-- THE TIED CARD OF 'estreatlaw22.ClashLeaves'. -/
def clashLeavesCard : Claim7 := { stood := { row := clashLeavesRow, standIns := [], harness := (true, "20448f906ff02ec59db2590b424591a2054db3e6ea868592a6298e638c88bd9d"), looks := false }, kinds := [], alts := [], laidByText := true, laidKinds := [.data], laidTests := true, laidLooks := .later }
def ClashLeavesCardSaid : Prop := Claim7.holds Tryd.pinned (.plain (OpenSpec.ofChange clashLeavesSpec)) clashLeavesCard

/-- THE TIED CARD OF 'estreatlaw22.ClashHeads'. -/
def clashHeadsCard : Claim7 := { stood := { row := clashHeadsRow, standIns := [], harness := (true, "20448f906ff02ec59db2590b424591a2054db3e6ea868592a6298e638c88bd9d"), looks := false }, kinds := [], alts := [], laidByText := true, laidKinds := [.data], laidTests := true, laidLooks := .later }
def ClashHeadsCardSaid : Prop := Claim7.holds Tryd.pinned (.plain (OpenSpec.ofChange clashHeadsSpec)) clashHeadsCard

/-- THE TIED CARD OF 'estreatlaw21.LedgerPlays'. -/
def ledgerPlaysCard : Claim7 := { stood := { row := ledgerPlaysRow, standIns := [], harness := (true, "20448f906ff02ec59db2590b424591a2054db3e6ea868592a6298e638c88bd9d"), looks := false }, kinds := [], alts := [], laidByText := true, laidKinds := [.data], laidTests := true, laidLooks := .later }
def LedgerPlaysCardSaid : Prop := Claim7.holds Tryd.pinned (.plain (OpenSpec.ofChange ledgerPlaysSpec)) ledgerPlaysCard

/-- THE TIED CARD OF 'estreatlaw22.ClashPaths'. -/
def clashPathsCard : Claim7 := { stood := { row := clashPathsRow, standIns := [], harness := (true, "20448f906ff02ec59db2590b424591a2054db3e6ea868592a6298e638c88bd9d"), looks := false }, kinds := [], alts := [], laidByText := true, laidKinds := [.data], laidTests := true, laidLooks := .later }
def ClashPathsCardSaid : Prop := Claim7.holds Tryd.pinned (.plain (OpenSpec.ofChange clashPathsSpec)) clashPathsCard

/-- THE TIED CARD OF 'estreatlaw22.ClashGrown'. -/
def clashGrownCard : Claim7 := { stood := { row := clashGrownRow, standIns := [], harness := (true, "20448f906ff02ec59db2590b424591a2054db3e6ea868592a6298e638c88bd9d"), looks := false }, kinds := [], alts := [], laidByText := true, laidKinds := [.data], laidTests := true, laidLooks := .later }
def ClashGrownCardSaid : Prop := Claim7.holds Tryd.pinned (.plain (OpenSpec.ofChange clashGrownSpec)) clashGrownCard

/-- THE TIED CARD OF 'estreatlaw21.LedgerGrows'. -/
def ledgerGrowsCard : Claim7 := { stood := { row := ledgerGrowsRow, standIns := [], harness := (true, "20448f906ff02ec59db2590b424591a2054db3e6ea868592a6298e638c88bd9d"), looks := false }, kinds := [], alts := [], laidByText := true, laidKinds := [.data], laidTests := true, laidLooks := .later }
def LedgerGrowsCardSaid : Prop := Claim7.holds Tryd.pinned (.plain (OpenSpec.ofChange ledgerGrowsSpec)) ledgerGrowsCard

/-- THE SECOND FORM's CARD OF 'estreatlaw22.ClashLeaves'. -/
def clashLeavesUptoCard : Claim7 := { stood := { row := clashLeavesUptoRow, standIns := [], harness := (true, "20448f906ff02ec59db2590b424591a2054db3e6ea868592a6298e638c88bd9d"), looks := false }, kinds := [], alts := [], laidByText := true, laidKinds := [.data], laidTests := true, laidLooks := .later }
def ClashLeavesUptoCardSaid : Prop := Claim7.holds Tryd.pinned (.plain (OpenSpec.upto clashLeavesSpec)) clashLeavesUptoCard

/-- THE SECOND FORM's CARD OF 'estreatlaw22.ClashHeads'. -/
def clashHeadsUptoCard : Claim7 := { stood := { row := clashHeadsUptoRow, standIns := [], harness := (true, "20448f906ff02ec59db2590b424591a2054db3e6ea868592a6298e638c88bd9d"), looks := false }, kinds := [], alts := [], laidByText := true, laidKinds := [.data], laidTests := true, laidLooks := .later }
def ClashHeadsUptoCardSaid : Prop := Claim7.holds Tryd.pinned (.plain (OpenSpec.upto clashHeadsSpec)) clashHeadsUptoCard

/-- THE SECOND FORM's CARD OF 'estreatlaw21.LedgerPlays'. -/
def ledgerPlaysUptoCard : Claim7 := { stood := { row := ledgerPlaysUptoRow, standIns := [], harness := (true, "20448f906ff02ec59db2590b424591a2054db3e6ea868592a6298e638c88bd9d"), looks := false }, kinds := [], alts := [], laidByText := true, laidKinds := [.data], laidTests := true, laidLooks := .later }
def LedgerPlaysUptoCardSaid : Prop := Claim7.holds Tryd.pinned (.plain (OpenSpec.upto ledgerPlaysSpec)) ledgerPlaysUptoCard

/-- THE SECOND FORM's CARD OF 'estreatlaw22.ClashPaths'. -/
def clashPathsUptoCard : Claim7 := { stood := { row := clashPathsUptoRow, standIns := [], harness := (true, "20448f906ff02ec59db2590b424591a2054db3e6ea868592a6298e638c88bd9d"), looks := false }, kinds := [], alts := [], laidByText := true, laidKinds := [.data], laidTests := true, laidLooks := .later }
def ClashPathsUptoCardSaid : Prop := Claim7.holds Tryd.pinned (.plain (OpenSpec.upto clashPathsSpec)) clashPathsUptoCard

/-- THE SECOND FORM's CARD OF 'estreatlaw22.ClashGrown'. -/
def clashGrownUptoCard : Claim7 := { stood := { row := clashGrownUptoRow, standIns := [], harness := (true, "20448f906ff02ec59db2590b424591a2054db3e6ea868592a6298e638c88bd9d"), looks := false }, kinds := [], alts := [], laidByText := true, laidKinds := [.data], laidTests := true, laidLooks := .later }
def ClashGrownUptoCardSaid : Prop := Claim7.holds Tryd.pinned (.plain (OpenSpec.upto clashGrownSpec)) clashGrownUptoCard

/-- THE SECOND FORM's CARD OF 'estreatlaw21.LedgerGrows'. -/
def ledgerGrowsUptoCard : Claim7 := { stood := { row := ledgerGrowsUptoRow, standIns := [], harness := (true, "20448f906ff02ec59db2590b424591a2054db3e6ea868592a6298e638c88bd9d"), looks := false }, kinds := [], alts := [], laidByText := true, laidKinds := [.data], laidTests := true, laidLooks := .later }
def LedgerGrowsUptoCardSaid : Prop := Claim7.holds Tryd.pinned (.plain (OpenSpec.upto ledgerGrowsSpec)) ledgerGrowsUptoCard
end Rows
end Go.Proofs.YtipaiielkpifoaaDoor
