/-
  DERIVED. GIVEN WITH THE SEED: THE CARDS: each row of YtlbcgadmcjobiaaDoorRows.lean that lists a variable, with what it lists TIED to the program's text (the seventh form; the later family's looks); each row that meets fmt, with fmt's text TOLD by the authors' own Lean function (tested against real Go, not proved from fmt's source: count such statements apart). THE CARD IS WHAT COUNTS. Prove the row's statement (the work); the ties are given (YtlbcgadmcjobiaaDoorTie.lean); close each card by the builder's one call (the guide's Derived/Test/ToyasCard.lean, 'card_holds'). Laid BY PROGRAM, IN A SANDBOX (cutbox-door.mjs). By AI agents, Wed Nov 11 2026. No macro, syntax, notation, axiom, sorry.
-/
import Derived.Test.YtlbcgadmcjobiaaDoorRows
import GoSem.ClaimSeven
namespace Go.Proofs.YtlbcgadmcjobiaaDoor
namespace Rows

/-- THE TIED CARD OF 'estreatlaw05.ShaSums'. -/
def shaSumsCard : Claim7 := { stood := { row := shaSumsRow, standIns := [], harness := (true, "2927bf6723f52ff8fe423f0cda8d48f4f6daff5b659d5ff25ed90781da3bef25"), looks := false }, kinds := [], alts := [], laidByText := true, laidKinds := [.data], laidTests := true, laidLooks := .later }
def ShaSumsCardSaid : Prop := Claim7.holds Tryd.pinned (.plain (OpenSpec.ofChange shaSumsSpec)) shaSumsCard

/-- THE TIED CARD OF 'estreatlaw05.ShaHex'. -/
def shaHexCard : Claim7 := { stood := { row := shaHexRow, standIns := [], harness := (true, "2927bf6723f52ff8fe423f0cda8d48f4f6daff5b659d5ff25ed90781da3bef25"), looks := false }, kinds := [], alts := [], laidByText := true, laidKinds := [.data], laidTests := true, laidLooks := .later }
def ShaHexCardSaid : Prop := Claim7.holds Tryd.pinned (.plain (OpenSpec.ofChange shaHexSpec)) shaHexCard

/-- THE TIED CARD OF 'estreatlaw05.ShaTagged'. -/
def shaTaggedCard : Claim7 := { stood := { row := shaTaggedRow, standIns := [], harness := (true, "2927bf6723f52ff8fe423f0cda8d48f4f6daff5b659d5ff25ed90781da3bef25"), looks := false }, kinds := [], alts := [], laidByText := true, laidKinds := [.data], laidTests := true, laidLooks := .later }
def ShaTaggedCardSaid : Prop := Claim7.holds Tryd.pinned (.plain (OpenSpec.ofChange shaTaggedSpec)) shaTaggedCard

/-- THE TIED CARD OF 'estreatlaw19.TreeTells'. -/
def treeTellsCard : Claim7 := { stood := { row := treeTellsRow, standIns := [], harness := (true, "2927bf6723f52ff8fe423f0cda8d48f4f6daff5b659d5ff25ed90781da3bef25"), looks := false }, kinds := [], alts := [], laidByText := true, laidKinds := [.data], laidTests := true, laidLooks := .later }
def TreeTellsCardSaid : Prop := Claim7.holds Tryd.pinned (.plain (OpenSpec.ofChange treeTellsSpec)) treeTellsCard

/-- THE TIED CARD OF 'estreatlaw19.TreeParts'. -/
def treePartsCard : Claim7 := { stood := { row := treePartsRow, standIns := [], harness := (true, "2927bf6723f52ff8fe423f0cda8d48f4f6daff5b659d5ff25ed90781da3bef25"), looks := false }, kinds := [], alts := [], laidByText := true, laidKinds := [.data], laidTests := true, laidLooks := .later }
def TreePartsCardSaid : Prop := Claim7.holds Tryd.pinned (.plain (OpenSpec.ofChange treePartsSpec)) treePartsCard

/-- THE TIED CARD OF 'estreatlaw19.TreeFolds'. -/
def treeFoldsCard : Claim7 := { stood := { row := treeFoldsRow, standIns := [], harness := (true, "2927bf6723f52ff8fe423f0cda8d48f4f6daff5b659d5ff25ed90781da3bef25"), looks := false }, kinds := [], alts := [], laidByText := true, laidKinds := [.data], laidTests := true, laidLooks := .later }
def TreeFoldsCardSaid : Prop := Claim7.holds Tryd.pinned (.plain (OpenSpec.ofChange treeFoldsSpec)) treeFoldsCard

/-- THE TIED CARD OF 'estreatlaw19.TreeRoots'. -/
def treeRootsCard : Claim7 := { stood := { row := treeRootsRow, standIns := [], harness := (true, "2927bf6723f52ff8fe423f0cda8d48f4f6daff5b659d5ff25ed90781da3bef25"), looks := false }, kinds := [], alts := [], laidByText := true, laidKinds := [.data], laidTests := true, laidLooks := .later }
def TreeRootsCardSaid : Prop := Claim7.holds Tryd.pinned (.plain (OpenSpec.ofChange treeRootsSpec)) treeRootsCard

/-- THE TIED CARD OF 'estreatlaw20.GrowProofs'. -/
def growProofsCard : Claim7 := { stood := { row := growProofsRow, standIns := [], harness := (true, "2927bf6723f52ff8fe423f0cda8d48f4f6daff5b659d5ff25ed90781da3bef25"), looks := false }, kinds := [], alts := [], laidByText := true, laidKinds := [.data], laidTests := true, laidLooks := .later }
def GrowProofsCardSaid : Prop := Claim7.holds Tryd.pinned (.plain (OpenSpec.ofChange growProofsSpec)) growProofsCard

/-- THE TIED CARD OF 'estreatlaw20.GrowChecks'. -/
def growChecksCard : Claim7 := { stood := { row := growChecksRow, standIns := [], harness := (true, "2927bf6723f52ff8fe423f0cda8d48f4f6daff5b659d5ff25ed90781da3bef25"), looks := false }, kinds := [], alts := [], laidByText := true, laidKinds := [.data], laidTests := true, laidLooks := .later }
def GrowChecksCardSaid : Prop := Claim7.holds Tryd.pinned (.plain (OpenSpec.ofChange growChecksSpec)) growChecksCard

/-- THE TIED CARD OF 'estreatlaw20.GrowSteps'. -/
def growStepsCard : Claim7 := { stood := { row := growStepsRow, standIns := [], harness := (true, "2927bf6723f52ff8fe423f0cda8d48f4f6daff5b659d5ff25ed90781da3bef25"), looks := false }, kinds := [], alts := [], laidByText := true, laidKinds := [.data], laidTests := true, laidLooks := .later }
def GrowStepsCardSaid : Prop := Claim7.holds Tryd.pinned (.plain (OpenSpec.ofChange growStepsSpec)) growStepsCard

/-- THE SECOND FORM's CARD OF 'estreatlaw05.ShaSums'. -/
def shaSumsUptoCard : Claim7 := { stood := { row := shaSumsUptoRow, standIns := [], harness := (true, "2927bf6723f52ff8fe423f0cda8d48f4f6daff5b659d5ff25ed90781da3bef25"), looks := false }, kinds := [], alts := [], laidByText := true, laidKinds := [.data], laidTests := true, laidLooks := .later }
def ShaSumsUptoCardSaid : Prop := Claim7.holds Tryd.pinned (.plain (OpenSpec.upto shaSumsSpec)) shaSumsUptoCard

/-- THE SECOND FORM's CARD OF 'estreatlaw05.ShaHex'. -/
def shaHexUptoCard : Claim7 := { stood := { row := shaHexUptoRow, standIns := [], harness := (true, "2927bf6723f52ff8fe423f0cda8d48f4f6daff5b659d5ff25ed90781da3bef25"), looks := false }, kinds := [], alts := [], laidByText := true, laidKinds := [.data], laidTests := true, laidLooks := .later }
def ShaHexUptoCardSaid : Prop := Claim7.holds Tryd.pinned (.plain (OpenSpec.upto shaHexSpec)) shaHexUptoCard

/-- THE SECOND FORM's CARD OF 'estreatlaw05.ShaTagged'. -/
def shaTaggedUptoCard : Claim7 := { stood := { row := shaTaggedUptoRow, standIns := [], harness := (true, "2927bf6723f52ff8fe423f0cda8d48f4f6daff5b659d5ff25ed90781da3bef25"), looks := false }, kinds := [], alts := [], laidByText := true, laidKinds := [.data], laidTests := true, laidLooks := .later }
def ShaTaggedUptoCardSaid : Prop := Claim7.holds Tryd.pinned (.plain (OpenSpec.upto shaTaggedSpec)) shaTaggedUptoCard

/-- THE SECOND FORM's CARD OF 'estreatlaw19.TreeTells'. -/
def treeTellsUptoCard : Claim7 := { stood := { row := treeTellsUptoRow, standIns := [], harness := (true, "2927bf6723f52ff8fe423f0cda8d48f4f6daff5b659d5ff25ed90781da3bef25"), looks := false }, kinds := [], alts := [], laidByText := true, laidKinds := [.data], laidTests := true, laidLooks := .later }
def TreeTellsUptoCardSaid : Prop := Claim7.holds Tryd.pinned (.plain (OpenSpec.upto treeTellsSpec)) treeTellsUptoCard

/-- THE SECOND FORM's CARD OF 'estreatlaw19.TreeParts'. -/
def treePartsUptoCard : Claim7 := { stood := { row := treePartsUptoRow, standIns := [], harness := (true, "2927bf6723f52ff8fe423f0cda8d48f4f6daff5b659d5ff25ed90781da3bef25"), looks := false }, kinds := [], alts := [], laidByText := true, laidKinds := [.data], laidTests := true, laidLooks := .later }
def TreePartsUptoCardSaid : Prop := Claim7.holds Tryd.pinned (.plain (OpenSpec.upto treePartsSpec)) treePartsUptoCard

/-- THE SECOND FORM's CARD OF 'estreatlaw19.TreeFolds'. -/
def treeFoldsUptoCard : Claim7 := { stood := { row := treeFoldsUptoRow, standIns := [], harness := (true, "2927bf6723f52ff8fe423f0cda8d48f4f6daff5b659d5ff25ed90781da3bef25"), looks := false }, kinds := [], alts := [], laidByText := true, laidKinds := [.data], laidTests := true, laidLooks := .later }
def TreeFoldsUptoCardSaid : Prop := Claim7.holds Tryd.pinned (.plain (OpenSpec.upto treeFoldsSpec)) treeFoldsUptoCard

/-- THE SECOND FORM's CARD OF 'estreatlaw19.TreeRoots'. -/
def treeRootsUptoCard : Claim7 := { stood := { row := treeRootsUptoRow, standIns := [], harness := (true, "2927bf6723f52ff8fe423f0cda8d48f4f6daff5b659d5ff25ed90781da3bef25"), looks := false }, kinds := [], alts := [], laidByText := true, laidKinds := [.data], laidTests := true, laidLooks := .later }
def TreeRootsUptoCardSaid : Prop := Claim7.holds Tryd.pinned (.plain (OpenSpec.upto treeRootsSpec)) treeRootsUptoCard

/-- THE SECOND FORM's CARD OF 'estreatlaw20.GrowProofs'. -/
def growProofsUptoCard : Claim7 := { stood := { row := growProofsUptoRow, standIns := [], harness := (true, "2927bf6723f52ff8fe423f0cda8d48f4f6daff5b659d5ff25ed90781da3bef25"), looks := false }, kinds := [], alts := [], laidByText := true, laidKinds := [.data], laidTests := true, laidLooks := .later }
def GrowProofsUptoCardSaid : Prop := Claim7.holds Tryd.pinned (.plain (OpenSpec.upto growProofsSpec)) growProofsUptoCard

/-- THE SECOND FORM's CARD OF 'estreatlaw20.GrowChecks'. -/
def growChecksUptoCard : Claim7 := { stood := { row := growChecksUptoRow, standIns := [], harness := (true, "2927bf6723f52ff8fe423f0cda8d48f4f6daff5b659d5ff25ed90781da3bef25"), looks := false }, kinds := [], alts := [], laidByText := true, laidKinds := [.data], laidTests := true, laidLooks := .later }
def GrowChecksUptoCardSaid : Prop := Claim7.holds Tryd.pinned (.plain (OpenSpec.upto growChecksSpec)) growChecksUptoCard

/-- THE SECOND FORM's CARD OF 'estreatlaw20.GrowSteps'. -/
def growStepsUptoCard : Claim7 := { stood := { row := growStepsUptoRow, standIns := [], harness := (true, "2927bf6723f52ff8fe423f0cda8d48f4f6daff5b659d5ff25ed90781da3bef25"), looks := false }, kinds := [], alts := [], laidByText := true, laidKinds := [.data], laidTests := true, laidLooks := .later }
def GrowStepsUptoCardSaid : Prop := Claim7.holds Tryd.pinned (.plain (OpenSpec.upto growStepsSpec)) growStepsUptoCard
end Rows
end Go.Proofs.YtlbcgadmcjobiaaDoor
