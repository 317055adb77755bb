/-
  NARROWER THAN 'FOR EVERY INPUT', by the rows' own cells (each row's printed sentence says how): ShaSums: laid · ShaHex: laid · ShaTagged: laid · TreeTells: laid · TreeParts: laid · TreeFolds: laid · TreeRoots: laid · GrowProofs: laid · GrowChecks: laid · GrowSteps: laid.
  DERIVED. THE GIVEN ROWS OF THIS SEAT. 10 by the template 'for every input the law returns true; each argument reads behind the call as it read before'; 0 by the template 'total and deterministic' (their statements: YtlbcgadmcjobiaaDoorTotals.lean).
  GIVEN WITH THE SEED: the statements are not yours to turn. If you find one false, say at which input.
  Laid BY PROGRAM, IN A SANDBOX (cutbox-rows.mjs): the forced cells as the released guide's own fill.sh prints them over the translation 4895c9fe213c6a71… (all of the seat's roots in one cut). By AI agents, Wed Nov 11 2026. No macro, syntax, notation, axiom, sorry.
-/
import Derived.Test.YtlbcgadmcjobiaaDoorChecked
import GoSem.Claim
import GoSem.ClaimJoined
import GoSem.ClaimMapViews
import Derived.JoinedTies
import Derived.KernelRfl
namespace Go.Proofs.YtlbcgadmcjobiaaDoor
/- THE CELL 'sum', in the pinned program and in every row, IS THE sha256 OF THE DUMP (.gsa) THAT YtlbcgadmcjobiaaDoorProg.lean LOADS. Nothing in Lean hashes anything: it is a label: what it is worth is what the hold of that sum in a sandbox is worth. -/
noncomputable def Tryd.pinned : Pinned := { name := "ytlbcgadmcjobiaadoor", sum := "4895c9fe213c6a71ae114ea3f4298b88d2c306efeb1604c522116d8c23fea6c1", checked := Tryd.checked }
namespace Rows
def none {H : Type} : Left H := { results := [], args := [] }

/- WHAT THE LISTED PACKAGE-LEVEL VARIABLES READ AS WHEN THE CALL BEGINS. Each datum BY PROGRAM (the guide's laid-datum.mjs) off the statement by which the dump's own 'gosem.cut.vars' lays the variable. In a bare row this is a premise. The card (YtlbcgadmcjobiaaDoorCards.lean) ties it to the program's text. -/
def laid_estreat_sha_table {H : Type} : DataW H := .agg [.lit (.int .u32 1116352408), .lit (.int .u32 1899447441), .lit (.int .u32 3049323471), .lit (.int .u32 3921009573), .lit (.int .u32 961987163), .lit (.int .u32 1508970993), .lit (.int .u32 2453635748), .lit (.int .u32 2870763221), .lit (.int .u32 3624381080), .lit (.int .u32 310598401), .lit (.int .u32 607225278), .lit (.int .u32 1426881987), .lit (.int .u32 1925078388), .lit (.int .u32 2162078206), .lit (.int .u32 2614888103), .lit (.int .u32 3248222580), .lit (.int .u32 3835390401), .lit (.int .u32 4022224774), .lit (.int .u32 264347078), .lit (.int .u32 604807628), .lit (.int .u32 770255983), .lit (.int .u32 1249150122), .lit (.int .u32 1555081692), .lit (.int .u32 1996064986), .lit (.int .u32 2554220882), .lit (.int .u32 2821834349), .lit (.int .u32 2952996808), .lit (.int .u32 3210313671), .lit (.int .u32 3336571891), .lit (.int .u32 3584528711), .lit (.int .u32 113926993), .lit (.int .u32 338241895), .lit (.int .u32 666307205), .lit (.int .u32 773529912), .lit (.int .u32 1294757372), .lit (.int .u32 1396182291), .lit (.int .u32 1695183700), .lit (.int .u32 1986661051), .lit (.int .u32 2177026350), .lit (.int .u32 2456956037), .lit (.int .u32 2730485921), .lit (.int .u32 2820302411), .lit (.int .u32 3259730800), .lit (.int .u32 3345764771), .lit (.int .u32 3516065817), .lit (.int .u32 3600352804), .lit (.int .u32 4094571909), .lit (.int .u32 275423344), .lit (.int .u32 430227734), .lit (.int .u32 506948616), .lit (.int .u32 659060556), .lit (.int .u32 883997877), .lit (.int .u32 958139571), .lit (.int .u32 1322822218), .lit (.int .u32 1537002063), .lit (.int .u32 1747873779), .lit (.int .u32 1955562222), .lit (.int .u32 2024104815), .lit (.int .u32 2227730452), .lit (.int .u32 2361852424), .lit (.int .u32 2428436474), .lit (.int .u32 2756734187), .lit (.int .u32 3204031479), .lit (.int .u32 3329325298)]

/-- 'estreatlaw05.ShaSums': WHATEVER THE INPUT: true; the input reads as it did. -/
def shaSumsSpec : ChangeSpec := { name := "shaSums", fn := fun _ => fun
  | [d] => { results := [.lit (.bool true)], args := [d] }
  | _ => none }
def shaSumsRow : OpenClaim := { program := "ytlbcgadmcjobiaadoor", sum := "4895c9fe213c6a71ae114ea3f4298b88d2c306efeb1604c522116d8c23fea6c1", func := "estreat/estreatlaw05.ShaSums", spec := "shaSums", named := ["estreat/sha.table"], apart := false, laid := [("estreat/sha.table", laid_estreat_sha_table)] }
def ShaSumsSaid : Prop := shaSumsRow.holds Tryd.pinned (OpenSpec.ofChange shaSumsSpec)

/-- ITS FALSE NEIGHBOUR: 'it returns false'. Refute it at one input. -/
def shaSumsWrong : ChangeSpec := { name := "shaSums", fn := fun _ => fun
  | [d] => { results := [.lit (.bool false)], args := [d] }
  | _ => none }
def ShaSumsWrongFalsely : Prop := shaSumsRow.holds Tryd.pinned (OpenSpec.ofChange shaSumsWrong)

/-- 'estreatlaw05.ShaHex': WHATEVER THE INPUT: true; the input reads as it did. -/
def shaHexSpec : ChangeSpec := { name := "shaHex", fn := fun _ => fun
  | [d1, d2] => { results := [.lit (.bool true)], args := [d1, d2] }
  | _ => none }
def shaHexRow : OpenClaim := { program := "ytlbcgadmcjobiaadoor", sum := "4895c9fe213c6a71ae114ea3f4298b88d2c306efeb1604c522116d8c23fea6c1", func := "estreat/estreatlaw05.ShaHex", spec := "shaHex", named := ["estreat/sha.table"], apart := false, laid := [("estreat/sha.table", laid_estreat_sha_table)] }
def ShaHexSaid : Prop := shaHexRow.holds Tryd.pinned (OpenSpec.ofChange shaHexSpec)

/-- ITS FALSE NEIGHBOUR: 'it returns false'. Refute it at one input. -/
def shaHexWrong : ChangeSpec := { name := "shaHex", fn := fun _ => fun
  | [d1, d2] => { results := [.lit (.bool false)], args := [d1, d2] }
  | _ => none }
def ShaHexWrongFalsely : Prop := shaHexRow.holds Tryd.pinned (OpenSpec.ofChange shaHexWrong)

/-- 'estreatlaw05.ShaTagged': WHATEVER THE INPUT: true; the input reads as it did. -/
def shaTaggedSpec : ChangeSpec := { name := "shaTagged", fn := fun _ => fun
  | [d1, d2] => { results := [.lit (.bool true)], args := [d1, d2] }
  | _ => none }
def shaTaggedRow : OpenClaim := { program := "ytlbcgadmcjobiaadoor", sum := "4895c9fe213c6a71ae114ea3f4298b88d2c306efeb1604c522116d8c23fea6c1", func := "estreat/estreatlaw05.ShaTagged", spec := "shaTagged", named := ["estreat/sha.table"], apart := false, laid := [("estreat/sha.table", laid_estreat_sha_table)] }
def ShaTaggedSaid : Prop := shaTaggedRow.holds Tryd.pinned (OpenSpec.ofChange shaTaggedSpec)

/-- ITS FALSE NEIGHBOUR: 'it returns false'. Refute it at one input. -/
def shaTaggedWrong : ChangeSpec := { name := "shaTagged", fn := fun _ => fun
  | [d1, d2] => { results := [.lit (.bool false)], args := [d1, d2] }
  | _ => none }
def ShaTaggedWrongFalsely : Prop := shaTaggedRow.holds Tryd.pinned (OpenSpec.ofChange shaTaggedWrong)

/-- 'estreatlaw19.TreeTells': WHATEVER THE INPUT: true; the input reads as it did. -/
def treeTellsSpec : ChangeSpec := { name := "treeTells", fn := fun _ => fun
  | [d1, d2] => { results := [.lit (.bool true)], args := [d1, d2] }
  | _ => none }
def treeTellsRow : OpenClaim := { program := "ytlbcgadmcjobiaadoor", sum := "4895c9fe213c6a71ae114ea3f4298b88d2c306efeb1604c522116d8c23fea6c1", func := "estreat/estreatlaw19.TreeTells", spec := "treeTells", recurses := true, named := ["estreat/sha.table"], apart := false, laid := [("estreat/sha.table", laid_estreat_sha_table)] }
def TreeTellsSaid : Prop := treeTellsRow.holds Tryd.pinned (OpenSpec.ofChange treeTellsSpec)

/-- ITS FALSE NEIGHBOUR: 'it returns false'. Refute it at one input. -/
def treeTellsWrong : ChangeSpec := { name := "treeTells", fn := fun _ => fun
  | [d1, d2] => { results := [.lit (.bool false)], args := [d1, d2] }
  | _ => none }
def TreeTellsWrongFalsely : Prop := treeTellsRow.holds Tryd.pinned (OpenSpec.ofChange treeTellsWrong)

/-- 'estreatlaw19.TreeParts': WHATEVER THE INPUT: true; the input reads as it did. -/
def treePartsSpec : ChangeSpec := { name := "treeParts", fn := fun _ => fun
  | [d1, d2] => { results := [.lit (.bool true)], args := [d1, d2] }
  | _ => none }
def treePartsRow : OpenClaim := { program := "ytlbcgadmcjobiaadoor", sum := "4895c9fe213c6a71ae114ea3f4298b88d2c306efeb1604c522116d8c23fea6c1", func := "estreat/estreatlaw19.TreeParts", spec := "treeParts", recurses := true, named := ["estreat/sha.table"], apart := false, laid := [("estreat/sha.table", laid_estreat_sha_table)] }
def TreePartsSaid : Prop := treePartsRow.holds Tryd.pinned (OpenSpec.ofChange treePartsSpec)

/-- ITS FALSE NEIGHBOUR: 'it returns false'. Refute it at one input. -/
def treePartsWrong : ChangeSpec := { name := "treeParts", fn := fun _ => fun
  | [d1, d2] => { results := [.lit (.bool false)], args := [d1, d2] }
  | _ => none }
def TreePartsWrongFalsely : Prop := treePartsRow.holds Tryd.pinned (OpenSpec.ofChange treePartsWrong)

/-- 'estreatlaw19.TreeFolds': WHATEVER THE INPUT: true; the input reads as it did. -/
def treeFoldsSpec : ChangeSpec := { name := "treeFolds", fn := fun _ => fun
  | [d1, d2, d3, d4] => { results := [.lit (.bool true)], args := [d1, d2, d3, d4] }
  | _ => none }
def treeFoldsRow : OpenClaim := { program := "ytlbcgadmcjobiaadoor", sum := "4895c9fe213c6a71ae114ea3f4298b88d2c306efeb1604c522116d8c23fea6c1", func := "estreat/estreatlaw19.TreeFolds", spec := "treeFolds", recurses := true, named := ["estreat/sha.table"], apart := false, laid := [("estreat/sha.table", laid_estreat_sha_table)] }
def TreeFoldsSaid : Prop := treeFoldsRow.holds Tryd.pinned (OpenSpec.ofChange treeFoldsSpec)

/-- ITS FALSE NEIGHBOUR: 'it returns false'. Refute it at one input. -/
def treeFoldsWrong : ChangeSpec := { name := "treeFolds", fn := fun _ => fun
  | [d1, d2, d3, d4] => { results := [.lit (.bool false)], args := [d1, d2, d3, d4] }
  | _ => none }
def TreeFoldsWrongFalsely : Prop := treeFoldsRow.holds Tryd.pinned (OpenSpec.ofChange treeFoldsWrong)

/-- 'estreatlaw19.TreeRoots': WHATEVER THE INPUT: true; the input reads as it did. -/
def treeRootsSpec : ChangeSpec := { name := "treeRoots", fn := fun _ => fun
  | [d1, d2, d3] => { results := [.lit (.bool true)], args := [d1, d2, d3] }
  | _ => none }
def treeRootsRow : OpenClaim := { program := "ytlbcgadmcjobiaadoor", sum := "4895c9fe213c6a71ae114ea3f4298b88d2c306efeb1604c522116d8c23fea6c1", func := "estreat/estreatlaw19.TreeRoots", spec := "treeRoots", recurses := true, named := ["estreat/sha.table"], apart := false, laid := [("estreat/sha.table", laid_estreat_sha_table)] }
def TreeRootsSaid : Prop := treeRootsRow.holds Tryd.pinned (OpenSpec.ofChange treeRootsSpec)

/-- ITS FALSE NEIGHBOUR: 'it returns false'. Refute it at one input. -/
def treeRootsWrong : ChangeSpec := { name := "treeRoots", fn := fun _ => fun
  | [d1, d2, d3] => { results := [.lit (.bool false)], args := [d1, d2, d3] }
  | _ => none }
def TreeRootsWrongFalsely : Prop := treeRootsRow.holds Tryd.pinned (OpenSpec.ofChange treeRootsWrong)

/-- 'estreatlaw20.GrowProofs': WHATEVER THE INPUT: true; the input reads as it did. -/
def growProofsSpec : ChangeSpec := { name := "growProofs", fn := fun _ => fun
  | [d1, d2] => { results := [.lit (.bool true)], args := [d1, d2] }
  | _ => none }
def growProofsRow : OpenClaim := { program := "ytlbcgadmcjobiaadoor", sum := "4895c9fe213c6a71ae114ea3f4298b88d2c306efeb1604c522116d8c23fea6c1", func := "estreat/estreatlaw20.GrowProofs", spec := "growProofs", recurses := true, named := ["estreat/sha.table"], apart := false, laid := [("estreat/sha.table", laid_estreat_sha_table)] }
def GrowProofsSaid : Prop := growProofsRow.holds Tryd.pinned (OpenSpec.ofChange growProofsSpec)

/-- ITS FALSE NEIGHBOUR: 'it returns false'. Refute it at one input. -/
def growProofsWrong : ChangeSpec := { name := "growProofs", fn := fun _ => fun
  | [d1, d2] => { results := [.lit (.bool false)], args := [d1, d2] }
  | _ => none }
def GrowProofsWrongFalsely : Prop := growProofsRow.holds Tryd.pinned (OpenSpec.ofChange growProofsWrong)

/-- 'estreatlaw20.GrowChecks': WHATEVER THE INPUT: true; the input reads as it did. -/
def growChecksSpec : ChangeSpec := { name := "growChecks", fn := fun _ => fun
  | [d1, d2, d3, d4, d5] => { results := [.lit (.bool true)], args := [d1, d2, d3, d4, d5] }
  | _ => none }
def growChecksRow : OpenClaim := { program := "ytlbcgadmcjobiaadoor", sum := "4895c9fe213c6a71ae114ea3f4298b88d2c306efeb1604c522116d8c23fea6c1", func := "estreat/estreatlaw20.GrowChecks", spec := "growChecks", recurses := true, named := ["estreat/sha.table"], apart := false, laid := [("estreat/sha.table", laid_estreat_sha_table)] }
def GrowChecksSaid : Prop := growChecksRow.holds Tryd.pinned (OpenSpec.ofChange growChecksSpec)

/-- ITS FALSE NEIGHBOUR: 'it returns false'. Refute it at one input. -/
def growChecksWrong : ChangeSpec := { name := "growChecks", fn := fun _ => fun
  | [d1, d2, d3, d4, d5] => { results := [.lit (.bool false)], args := [d1, d2, d3, d4, d5] }
  | _ => none }
def GrowChecksWrongFalsely : Prop := growChecksRow.holds Tryd.pinned (OpenSpec.ofChange growChecksWrong)

/-- 'estreatlaw20.GrowSteps': WHATEVER THE INPUT: true; the input reads as it did. -/
def growStepsSpec : ChangeSpec := { name := "growSteps", fn := fun _ => fun
  | [d1, d2, d3] => { results := [.lit (.bool true)], args := [d1, d2, d3] }
  | _ => none }
def growStepsRow : OpenClaim := { program := "ytlbcgadmcjobiaadoor", sum := "4895c9fe213c6a71ae114ea3f4298b88d2c306efeb1604c522116d8c23fea6c1", func := "estreat/estreatlaw20.GrowSteps", spec := "growSteps", recurses := true, named := ["estreat/sha.table"], apart := false, laid := [("estreat/sha.table", laid_estreat_sha_table)] }
def GrowStepsSaid : Prop := growStepsRow.holds Tryd.pinned (OpenSpec.ofChange growStepsSpec)

/-- ITS FALSE NEIGHBOUR: 'it returns false'. Refute it at one input. -/
def growStepsWrong : ChangeSpec := { name := "growSteps", fn := fun _ => fun
  | [d1, d2, d3] => { results := [.lit (.bool false)], args := [d1, d2, d3] }
  | _ => none }
def GrowStepsWrongFalsely : Prop := growStepsRow.holds Tryd.pinned (OpenSpec.ofChange growStepsWrong)

/- THE SECOND FORM. 'bulk': how many values and letters a reading holds, each counted each time it is reached (what is shared counts as often as it is met; a slice's spare places count too). A statement '..UptoSaid' is the law's where the arguments, and the package variables that the reading takes, are together of bulk at most 1048576: NARROWER than '..Said'. Prove '..Said' where nothing that the law and all that it calls make is longer than what came in: it says more and counts as full. Else prove '..UptoSaid'. A law counts once. -/
mutual
def uptoBulk {H : Type} : DataW H → Nat
  | .lit (.string bytes) => bytes.length + 1
  | .lit _ => 1
  | .nil => 1
  | .ptr d => uptoBulk d + 1
  | .slice elems spare => uptoBulkAll elems + uptoBulkAll spare + 1
  | .agg parts => uptoBulkAll parts + 1
  | .iface _ d => uptoBulk d + 1
  | .map entries => uptoBulkEntries entries + 1
  | .held _ => 1
def uptoBulkAll {H : Type} : List (DataW H) → Nat
  | [] => 0
  | d :: r => uptoBulk d + uptoBulkAll r
def uptoBulkEntries {H : Type} : List (Lit × DataW H) → Nat
  | [] => 0
  | x :: r => uptoBulkEntry x + uptoBulkEntries r
def uptoBulkEntry {H : Type} : Lit × DataW H → Nat
  | (.string bytes, d) => bytes.length + uptoBulk d + 1
  | (_, d) => uptoBulk d + 1
 end
def uptoSmall : (H : Type) → List (DataW H) → Bool := fun _ ds => decide (uptoBulkAll ds ≤ 1048576)
def OpenSpec.upto (s : _root_.Go.ChangeSpec) : _root_.Go.OpenSpec := { _root_.Go.OpenSpec.ofChange s with cond := some uptoSmall }

/-- 'estreatlaw05.ShaSums', WHERE WHAT IT READS IS OF BULK AT MOST 1048576: true; the input reads as it did. -/
def shaSumsUptoRow : OpenClaim := { program := "ytlbcgadmcjobiaadoor", sum := "4895c9fe213c6a71ae114ea3f4298b88d2c306efeb1604c522116d8c23fea6c1", func := "estreat/estreatlaw05.ShaSums", spec := "shaSums", named := ["estreat/sha.table"], apart := false, laid := [("estreat/sha.table", laid_estreat_sha_table)], narrowed := true }
def ShaSumsUptoSaid : Prop := shaSumsUptoRow.holds Tryd.pinned (OpenSpec.upto shaSumsSpec)

/-- 'estreatlaw05.ShaHex', WHERE WHAT IT READS IS OF BULK AT MOST 1048576: true; the input reads as it did. -/
def shaHexUptoRow : OpenClaim := { program := "ytlbcgadmcjobiaadoor", sum := "4895c9fe213c6a71ae114ea3f4298b88d2c306efeb1604c522116d8c23fea6c1", func := "estreat/estreatlaw05.ShaHex", spec := "shaHex", named := ["estreat/sha.table"], apart := false, laid := [("estreat/sha.table", laid_estreat_sha_table)], narrowed := true }
def ShaHexUptoSaid : Prop := shaHexUptoRow.holds Tryd.pinned (OpenSpec.upto shaHexSpec)

/-- 'estreatlaw05.ShaTagged', WHERE WHAT IT READS IS OF BULK AT MOST 1048576: true; the input reads as it did. -/
def shaTaggedUptoRow : OpenClaim := { program := "ytlbcgadmcjobiaadoor", sum := "4895c9fe213c6a71ae114ea3f4298b88d2c306efeb1604c522116d8c23fea6c1", func := "estreat/estreatlaw05.ShaTagged", spec := "shaTagged", named := ["estreat/sha.table"], apart := false, laid := [("estreat/sha.table", laid_estreat_sha_table)], narrowed := true }
def ShaTaggedUptoSaid : Prop := shaTaggedUptoRow.holds Tryd.pinned (OpenSpec.upto shaTaggedSpec)

/-- 'estreatlaw19.TreeTells', WHERE WHAT IT READS IS OF BULK AT MOST 1048576: true; the input reads as it did. -/
def treeTellsUptoRow : OpenClaim := { program := "ytlbcgadmcjobiaadoor", sum := "4895c9fe213c6a71ae114ea3f4298b88d2c306efeb1604c522116d8c23fea6c1", func := "estreat/estreatlaw19.TreeTells", spec := "treeTells", recurses := true, named := ["estreat/sha.table"], apart := false, laid := [("estreat/sha.table", laid_estreat_sha_table)], narrowed := true }
def TreeTellsUptoSaid : Prop := treeTellsUptoRow.holds Tryd.pinned (OpenSpec.upto treeTellsSpec)

/-- 'estreatlaw19.TreeParts', WHERE WHAT IT READS IS OF BULK AT MOST 1048576: true; the input reads as it did. -/
def treePartsUptoRow : OpenClaim := { program := "ytlbcgadmcjobiaadoor", sum := "4895c9fe213c6a71ae114ea3f4298b88d2c306efeb1604c522116d8c23fea6c1", func := "estreat/estreatlaw19.TreeParts", spec := "treeParts", recurses := true, named := ["estreat/sha.table"], apart := false, laid := [("estreat/sha.table", laid_estreat_sha_table)], narrowed := true }
def TreePartsUptoSaid : Prop := treePartsUptoRow.holds Tryd.pinned (OpenSpec.upto treePartsSpec)

/-- 'estreatlaw19.TreeFolds', WHERE WHAT IT READS IS OF BULK AT MOST 1048576: true; the input reads as it did. -/
def treeFoldsUptoRow : OpenClaim := { program := "ytlbcgadmcjobiaadoor", sum := "4895c9fe213c6a71ae114ea3f4298b88d2c306efeb1604c522116d8c23fea6c1", func := "estreat/estreatlaw19.TreeFolds", spec := "treeFolds", recurses := true, named := ["estreat/sha.table"], apart := false, laid := [("estreat/sha.table", laid_estreat_sha_table)], narrowed := true }
def TreeFoldsUptoSaid : Prop := treeFoldsUptoRow.holds Tryd.pinned (OpenSpec.upto treeFoldsSpec)

/-- 'estreatlaw19.TreeRoots', WHERE WHAT IT READS IS OF BULK AT MOST 1048576: true; the input reads as it did. -/
def treeRootsUptoRow : OpenClaim := { program := "ytlbcgadmcjobiaadoor", sum := "4895c9fe213c6a71ae114ea3f4298b88d2c306efeb1604c522116d8c23fea6c1", func := "estreat/estreatlaw19.TreeRoots", spec := "treeRoots", recurses := true, named := ["estreat/sha.table"], apart := false, laid := [("estreat/sha.table", laid_estreat_sha_table)], narrowed := true }
def TreeRootsUptoSaid : Prop := treeRootsUptoRow.holds Tryd.pinned (OpenSpec.upto treeRootsSpec)

/-- 'estreatlaw20.GrowProofs', WHERE WHAT IT READS IS OF BULK AT MOST 1048576: true; the input reads as it did. -/
def growProofsUptoRow : OpenClaim := { program := "ytlbcgadmcjobiaadoor", sum := "4895c9fe213c6a71ae114ea3f4298b88d2c306efeb1604c522116d8c23fea6c1", func := "estreat/estreatlaw20.GrowProofs", spec := "growProofs", recurses := true, named := ["estreat/sha.table"], apart := false, laid := [("estreat/sha.table", laid_estreat_sha_table)], narrowed := true }
def GrowProofsUptoSaid : Prop := growProofsUptoRow.holds Tryd.pinned (OpenSpec.upto growProofsSpec)

/-- 'estreatlaw20.GrowChecks', WHERE WHAT IT READS IS OF BULK AT MOST 1048576: true; the input reads as it did. -/
def growChecksUptoRow : OpenClaim := { program := "ytlbcgadmcjobiaadoor", sum := "4895c9fe213c6a71ae114ea3f4298b88d2c306efeb1604c522116d8c23fea6c1", func := "estreat/estreatlaw20.GrowChecks", spec := "growChecks", recurses := true, named := ["estreat/sha.table"], apart := false, laid := [("estreat/sha.table", laid_estreat_sha_table)], narrowed := true }
def GrowChecksUptoSaid : Prop := growChecksUptoRow.holds Tryd.pinned (OpenSpec.upto growChecksSpec)

/-- 'estreatlaw20.GrowSteps', WHERE WHAT IT READS IS OF BULK AT MOST 1048576: true; the input reads as it did. -/
def growStepsUptoRow : OpenClaim := { program := "ytlbcgadmcjobiaadoor", sum := "4895c9fe213c6a71ae114ea3f4298b88d2c306efeb1604c522116d8c23fea6c1", func := "estreat/estreatlaw20.GrowSteps", spec := "growSteps", recurses := true, named := ["estreat/sha.table"], apart := false, laid := [("estreat/sha.table", laid_estreat_sha_table)], narrowed := true }
def GrowStepsUptoSaid : Prop := growStepsUptoRow.holds Tryd.pinned (OpenSpec.upto growStepsSpec)

end Rows
end Go.Proofs.YtlbcgadmcjobiaaDoor
