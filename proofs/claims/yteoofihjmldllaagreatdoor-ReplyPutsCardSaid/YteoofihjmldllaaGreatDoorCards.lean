/-
  DERIVED. GIVEN WITH THE SEED: THE CARDS: each row of YteoofihjmldllaaGreatDoorRows.lean that lists a variable, with what it lists TIED to the program's text (the seventh form; the later family's looks); each row that meets fmt, with fmt's text TOLD by the authors' own Lean function (tested against real Go, not proved from fmt's source: count such statements apart). THE CARD IS WHAT COUNTS. Prove the row's statement (the work); the ties are given (YteoofihjmldllaaGreatDoorTie.lean); close each card by the builder's one call (the guide's Derived/Test/ToyasCard.lean, 'card_holds'). Laid BY PROGRAM, IN A SANDBOX (cutbox-door.mjs). By AI agents, Wed Nov 11 2026. No macro, syntax, notation, axiom, sorry.
-/
import Derived.Test.YteoofihjmldllaaGreatDoorRows
import GoSem.ClaimSeven
namespace Go.Proofs.YteoofihjmldllaaGreatDoor
namespace Rows

/-- THE TIED CARD OF 'estreatlaw29.ReplyPuts'. -/
def replyPutsCard : Claim7 := { stood := { row := replyPutsRow, standIns := [], harness := (true, "c09ed1b46e19817482778b159a237a6e3fff1b1cd08424cb2bd6364624e3eee2"), looks := true }, kinds := [], alts := [], laidByText := true, laidKinds := [.handle], laidTests := true, laidLooks := .later }
def ReplyPutsCardSaid : Prop := Claim7.holds Tryz.pinned (.plain (OpenSpec.ofChange replyPutsSpec)) replyPutsCard

/-- THE TIED CARD OF 'estreatlaw29.ReplyTakes'. -/
def replyTakesCard : Claim7 := { stood := { row := replyTakesRow, standIns := [], harness := (true, "c09ed1b46e19817482778b159a237a6e3fff1b1cd08424cb2bd6364624e3eee2"), looks := true }, kinds := [], alts := [], laidByText := true, laidKinds := [.handle], laidTests := true, laidLooks := .later }
def ReplyTakesCardSaid : Prop := Claim7.holds Tryz.pinned (.plain (OpenSpec.ofChange replyTakesSpec)) replyTakesCard

/-- THE SECOND FORM's CARD OF 'estreatlaw29.ReplyPuts'. -/
def replyPutsUptoCard : Claim7 := { stood := { row := replyPutsUptoRow, standIns := [], harness := (true, "c09ed1b46e19817482778b159a237a6e3fff1b1cd08424cb2bd6364624e3eee2"), looks := true }, kinds := [], alts := [], laidByText := true, laidKinds := [.handle], laidTests := true, laidLooks := .later }
def ReplyPutsUptoCardSaid : Prop := Claim7.holds Tryz.pinned (.plain (OpenSpec.upto replyPutsSpec)) replyPutsUptoCard

/-- THE SECOND FORM's CARD OF 'estreatlaw29.ReplyTakes'. -/
def replyTakesUptoCard : Claim7 := { stood := { row := replyTakesUptoRow, standIns := [], harness := (true, "c09ed1b46e19817482778b159a237a6e3fff1b1cd08424cb2bd6364624e3eee2"), looks := true }, kinds := [], alts := [], laidByText := true, laidKinds := [.handle], laidTests := true, laidLooks := .later }
def ReplyTakesUptoCardSaid : Prop := Claim7.holds Tryz.pinned (.plain (OpenSpec.upto replyTakesSpec)) replyTakesUptoCard
end Rows
end Go.Proofs.YteoofihjmldllaaGreatDoor
