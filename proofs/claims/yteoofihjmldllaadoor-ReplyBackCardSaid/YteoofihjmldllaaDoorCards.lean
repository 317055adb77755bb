/-
  DERIVED. GIVEN WITH THE SEED: THE CARDS: each row of YteoofihjmldllaaDoorRows.lean that lists a variable, with what it lists TIED to the program's text (the seventh form; the later family's looks); each row that meets fmt, with fmt's text TOLD by the authors' own Lean function (tested against real Go, not proved from fmt's source: count such statements apart). THE CARD IS WHAT COUNTS. Prove the row's statement (the work); the ties are given (YteoofihjmldllaaDoorTie.lean); close each card by the builder's one call (the guide's Derived/Test/ToyasCard.lean, 'card_holds'). Laid BY PROGRAM, IN A SANDBOX (cutbox-door.mjs). By AI agents, Wed Nov 11 2026. No macro, syntax, notation, axiom, sorry.
-/
import Derived.Test.YteoofihjmldllaaDoorRows
import GoSem.ClaimSeven
namespace Go.Proofs.YteoofihjmldllaaDoor
namespace Rows

/-- THE TIED CARD OF 'estreatlaw16.PredTakes'. -/
def predTakesCard : Claim7 := { stood := { row := predTakesRow, standIns := [], harness := (true, "e3a164e7be54cadef1bd2552386700a73e215fd1e594bbea6ae97ae454be0f15"), looks := true }, kinds := [], alts := [], laidByText := true, laidKinds := [.handle, .data], laidTests := true, laidLooks := .later }
def PredTakesCardSaid : Prop := Claim7.holds Tryd.pinned (.plain (OpenSpec.ofChange predTakesSpec)) predTakesCard

/-- THE TIED CARD OF 'estreatlaw25.LogTakes'. -/
def logTakesCard : Claim7 := { stood := { row := logTakesRow, standIns := [], harness := (true, "e3a164e7be54cadef1bd2552386700a73e215fd1e594bbea6ae97ae454be0f15"), looks := true }, kinds := [], alts := [], laidByText := true, laidKinds := [.handle], laidTests := true, laidLooks := .later }
def LogTakesCardSaid : Prop := Claim7.holds Tryd.pinned (.plain (OpenSpec.ofChange logTakesSpec)) logTakesCard

/-- THE TIED CARD OF 'estreatlaw25.LogBack'. -/
def logBackCard : Claim7 := { stood := { row := logBackRow, standIns := [], harness := (true, "e3a164e7be54cadef1bd2552386700a73e215fd1e594bbea6ae97ae454be0f15"), looks := true }, kinds := [], alts := [], laidByText := true, laidKinds := [.handle], laidTests := true, laidLooks := .later }
def LogBackCardSaid : Prop := Claim7.holds Tryd.pinned (.plain (OpenSpec.ofChange logBackSpec)) logBackCard

/-- THE TIED CARD OF 'estreatlaw25.LogTells'. -/
def logTellsCard : Claim7 := { stood := { row := logTellsRow, standIns := [], harness := (true, "e3a164e7be54cadef1bd2552386700a73e215fd1e594bbea6ae97ae454be0f15"), looks := true }, kinds := [], alts := [], laidByText := true, laidKinds := [.handle], laidTests := true, laidLooks := .later }
def LogTellsCardSaid : Prop := Claim7.holds Tryd.pinned (.plain (OpenSpec.ofChange logTellsSpec)) logTellsCard

/-- THE TIED CARD OF 'estreatlaw29.ReplyBack'. -/
def replyBackCard : Claim7 := { stood := { row := replyBackRow, standIns := [], harness := (true, "e3a164e7be54cadef1bd2552386700a73e215fd1e594bbea6ae97ae454be0f15"), looks := true }, kinds := [], alts := [], laidByText := true, laidKinds := [.handle], laidTests := true, laidLooks := .later }
def ReplyBackCardSaid : Prop := Claim7.holds Tryd.pinned (.plain (OpenSpec.ofChange replyBackSpec)) replyBackCard

/-- THE SECOND FORM's CARD OF 'estreatlaw16.PredTakes'. -/
def predTakesUptoCard : Claim7 := { stood := { row := predTakesUptoRow, standIns := [], harness := (true, "e3a164e7be54cadef1bd2552386700a73e215fd1e594bbea6ae97ae454be0f15"), looks := true }, kinds := [], alts := [], laidByText := true, laidKinds := [.handle, .data], laidTests := true, laidLooks := .later }
def PredTakesUptoCardSaid : Prop := Claim7.holds Tryd.pinned (.plain (OpenSpec.upto predTakesSpec)) predTakesUptoCard

/-- THE SECOND FORM's CARD OF 'estreatlaw25.LogTakes'. -/
def logTakesUptoCard : Claim7 := { stood := { row := logTakesUptoRow, standIns := [], harness := (true, "e3a164e7be54cadef1bd2552386700a73e215fd1e594bbea6ae97ae454be0f15"), looks := true }, kinds := [], alts := [], laidByText := true, laidKinds := [.handle], laidTests := true, laidLooks := .later }
def LogTakesUptoCardSaid : Prop := Claim7.holds Tryd.pinned (.plain (OpenSpec.upto logTakesSpec)) logTakesUptoCard

/-- THE SECOND FORM's CARD OF 'estreatlaw25.LogBack'. -/
def logBackUptoCard : Claim7 := { stood := { row := logBackUptoRow, standIns := [], harness := (true, "e3a164e7be54cadef1bd2552386700a73e215fd1e594bbea6ae97ae454be0f15"), looks := true }, kinds := [], alts := [], laidByText := true, laidKinds := [.handle], laidTests := true, laidLooks := .later }
def LogBackUptoCardSaid : Prop := Claim7.holds Tryd.pinned (.plain (OpenSpec.upto logBackSpec)) logBackUptoCard

/-- THE SECOND FORM's CARD OF 'estreatlaw25.LogTells'. -/
def logTellsUptoCard : Claim7 := { stood := { row := logTellsUptoRow, standIns := [], harness := (true, "e3a164e7be54cadef1bd2552386700a73e215fd1e594bbea6ae97ae454be0f15"), looks := true }, kinds := [], alts := [], laidByText := true, laidKinds := [.handle], laidTests := true, laidLooks := .later }
def LogTellsUptoCardSaid : Prop := Claim7.holds Tryd.pinned (.plain (OpenSpec.upto logTellsSpec)) logTellsUptoCard

/-- THE SECOND FORM's CARD OF 'estreatlaw29.ReplyBack'. -/
def replyBackUptoCard : Claim7 := { stood := { row := replyBackUptoRow, standIns := [], harness := (true, "e3a164e7be54cadef1bd2552386700a73e215fd1e594bbea6ae97ae454be0f15"), looks := true }, kinds := [], alts := [], laidByText := true, laidKinds := [.handle], laidTests := true, laidLooks := .later }
def ReplyBackUptoCardSaid : Prop := Claim7.holds Tryd.pinned (.plain (OpenSpec.upto replyBackSpec)) replyBackUptoCard
end Rows
end Go.Proofs.YteoofihjmldllaaDoor
