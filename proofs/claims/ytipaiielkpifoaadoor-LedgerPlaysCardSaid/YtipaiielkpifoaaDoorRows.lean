/-
  NARROWER THAN 'FOR EVERY INPUT', by the rows' own cells (each row's printed sentence says how): ClashLeaves: laid · ClashHeads: laid · LedgerPlays: laid · ClashPaths: laid · ClashGrown: laid · LedgerGrows: laid.
  DERIVED. THE GIVEN ROWS OF THIS SEAT. 6 by the template 'for every input the law returns true; each argument reads behind the call as it read before'; 0 by the template 'total and deterministic' (their statements: YtipaiielkpifoaaDoorTotals.lean).
  GIVEN WITH THE SEED: the statements are not yours to turn. If you find one false, say at which input.
  Laid BY PROGRAM, IN A SANDBOX (cutbox-rows.mjs): the forced cells as the released guide's own fill.sh prints them over the translation 947987afbf57c457… (all of the seat's roots in one cut). By AI agents, Wed Nov 11 2026. No macro, syntax, notation, axiom, sorry.
-/
import Derived.Test.YtipaiielkpifoaaDoorChecked
import GoSem.Claim
import GoSem.ClaimJoined
import GoSem.ClaimMapViews
import Derived.JoinedTies
import Derived.KernelRfl
namespace Go.Proofs.YtipaiielkpifoaaDoor
/- THE CELL 'sum', in the pinned program and in every row, IS THE sha256 OF THE DUMP (.gsa) THAT YtipaiielkpifoaaDoorProg.lean LOADS. Nothing in Lean hashes anything: it is a label: what it is worth is what the hold of that sum in a sandbox is worth. -/
noncomputable def Tryd.pinned : Pinned := { name := "ytipaiielkpifoaadoor", sum := "947987afbf57c4574e68036ed83535618097fc8f9f256b1380da70a9c5f6840a", checked := Tryd.checked }
namespace Rows
def none {H : Type} : Left H := { results := [], args := [] }

/- WHAT THE LISTED PACKAGE-LEVEL VARIABLES READ AS WHEN THE CALL BEGINS. Each datum BY PROGRAM (the guide's laid-datum.mjs) off the statement by which the dump's own 'gosem.cut.vars' lays the variable. In a bare row this is a premise. The card (YtipaiielkpifoaaDoorCards.lean) ties it to the program's text. -/
def laid_estreat_sha_table {H : Type} : DataW H := .agg [.lit (.int .u32 1116352408), .lit (.int .u32 1899447441), .lit (.int .u32 3049323471), .lit (.int .u32 3921009573), .lit (.int .u32 961987163), .lit (.int .u32 1508970993), .lit (.int .u32 2453635748), .lit (.int .u32 2870763221), .lit (.int .u32 3624381080), .lit (.int .u32 310598401), .lit (.int .u32 607225278), .lit (.int .u32 1426881987), .lit (.int .u32 1925078388), .lit (.int .u32 2162078206), .lit (.int .u32 2614888103), .lit (.int .u32 3248222580), .lit (.int .u32 3835390401), .lit (.int .u32 4022224774), .lit (.int .u32 264347078), .lit (.int .u32 604807628), .lit (.int .u32 770255983), .lit (.int .u32 1249150122), .lit (.int .u32 1555081692), .lit (.int .u32 1996064986), .lit (.int .u32 2554220882), .lit (.int .u32 2821834349), .lit (.int .u32 2952996808), .lit (.int .u32 3210313671), .lit (.int .u32 3336571891), .lit (.int .u32 3584528711), .lit (.int .u32 113926993), .lit (.int .u32 338241895), .lit (.int .u32 666307205), .lit (.int .u32 773529912), .lit (.int .u32 1294757372), .lit (.int .u32 1396182291), .lit (.int .u32 1695183700), .lit (.int .u32 1986661051), .lit (.int .u32 2177026350), .lit (.int .u32 2456956037), .lit (.int .u32 2730485921), .lit (.int .u32 2820302411), .lit (.int .u32 3259730800), .lit (.int .u32 3345764771), .lit (.int .u32 3516065817), .lit (.int .u32 3600352804), .lit (.int .u32 4094571909), .lit (.int .u32 275423344), .lit (.int .u32 430227734), .lit (.int .u32 506948616), .lit (.int .u32 659060556), .lit (.int .u32 883997877), .lit (.int .u32 958139571), .lit (.int .u32 1322822218), .lit (.int .u32 1537002063), .lit (.int .u32 1747873779), .lit (.int .u32 1955562222), .lit (.int .u32 2024104815), .lit (.int .u32 2227730452), .lit (.int .u32 2361852424), .lit (.int .u32 2428436474), .lit (.int .u32 2756734187), .lit (.int .u32 3204031479), .lit (.int .u32 3329325298)]

/-- 'estreatlaw22.ClashLeaves': WHATEVER THE INPUT: true; the input reads as it did. -/
def clashLeavesSpec : ChangeSpec := { name := "clashLeaves", fn := fun _ => fun
  | [d1, d2] => { results := [.lit (.bool true)], args := [d1, d2] }
  | _ => none }
def clashLeavesRow : OpenClaim := { program := "ytipaiielkpifoaadoor", sum := "947987afbf57c4574e68036ed83535618097fc8f9f256b1380da70a9c5f6840a", func := "estreat/estreatlaw22.ClashLeaves", spec := "clashLeaves", unfollowed := true, recurses := true, named := ["estreat/sha.table"], apart := false, laid := [("estreat/sha.table", laid_estreat_sha_table)] }
def ClashLeavesSaid : Prop := clashLeavesRow.holds Tryd.pinned (OpenSpec.ofChange clashLeavesSpec)

/-- ITS FALSE NEIGHBOUR: 'it returns false'. Refute it at one input. -/
def clashLeavesWrong : ChangeSpec := { name := "clashLeaves", fn := fun _ => fun
  | [d1, d2] => { results := [.lit (.bool false)], args := [d1, d2] }
  | _ => none }
def ClashLeavesWrongFalsely : Prop := clashLeavesRow.holds Tryd.pinned (OpenSpec.ofChange clashLeavesWrong)

/-- 'estreatlaw22.ClashHeads': WHATEVER THE INPUT: true; the input reads as it did. -/
def clashHeadsSpec : ChangeSpec := { name := "clashHeads", fn := fun _ => fun
  | [d1, d2, d3, d4] => { results := [.lit (.bool true)], args := [d1, d2, d3, d4] }
  | _ => none }
def clashHeadsRow : OpenClaim := { program := "ytipaiielkpifoaadoor", sum := "947987afbf57c4574e68036ed83535618097fc8f9f256b1380da70a9c5f6840a", func := "estreat/estreatlaw22.ClashHeads", spec := "clashHeads", unfollowed := true, recurses := true, named := ["estreat/sha.table"], apart := false, laid := [("estreat/sha.table", laid_estreat_sha_table)] }
def ClashHeadsSaid : Prop := clashHeadsRow.holds Tryd.pinned (OpenSpec.ofChange clashHeadsSpec)

/-- ITS FALSE NEIGHBOUR: 'it returns false'. Refute it at one input. -/
def clashHeadsWrong : ChangeSpec := { name := "clashHeads", fn := fun _ => fun
  | [d1, d2, d3, d4] => { results := [.lit (.bool false)], args := [d1, d2, d3, d4] }
  | _ => none }
def ClashHeadsWrongFalsely : Prop := clashHeadsRow.holds Tryd.pinned (OpenSpec.ofChange clashHeadsWrong)

/-- 'estreatlaw21.LedgerPlays': WHATEVER THE INPUT: true; the input reads as it did. -/
def ledgerPlaysSpec : ChangeSpec := { name := "ledgerPlays", fn := fun _ => fun
  | [d1, d2] => { results := [.lit (.bool true)], args := [d1, d2] }
  | _ => none }
def ledgerPlaysRow : OpenClaim := { program := "ytipaiielkpifoaadoor", sum := "947987afbf57c4574e68036ed83535618097fc8f9f256b1380da70a9c5f6840a", func := "estreat/estreatlaw21.LedgerPlays", spec := "ledgerPlays", recurses := true, named := ["estreat/sha.table"], apart := false, laid := [("estreat/sha.table", laid_estreat_sha_table)] }
def LedgerPlaysSaid : Prop := ledgerPlaysRow.holds Tryd.pinned (OpenSpec.ofChange ledgerPlaysSpec)

/-- ITS FALSE NEIGHBOUR: 'it returns false'. Refute it at one input. -/
def ledgerPlaysWrong : ChangeSpec := { name := "ledgerPlays", fn := fun _ => fun
  | [d1, d2] => { results := [.lit (.bool false)], args := [d1, d2] }
  | _ => none }
def LedgerPlaysWrongFalsely : Prop := ledgerPlaysRow.holds Tryd.pinned (OpenSpec.ofChange ledgerPlaysWrong)

/-- 'estreatlaw22.ClashPaths': WHATEVER THE INPUT: true; the input reads as it did. -/
def clashPathsSpec : ChangeSpec := { name := "clashPaths", fn := fun _ => fun
  | [d1, d2, d3, d4] => { results := [.lit (.bool true)], args := [d1, d2, d3, d4] }
  | _ => none }
def clashPathsRow : OpenClaim := { program := "ytipaiielkpifoaadoor", sum := "947987afbf57c4574e68036ed83535618097fc8f9f256b1380da70a9c5f6840a", func := "estreat/estreatlaw22.ClashPaths", spec := "clashPaths", unfollowed := true, recurses := true, named := ["estreat/sha.table"], apart := false, laid := [("estreat/sha.table", laid_estreat_sha_table)] }
def ClashPathsSaid : Prop := clashPathsRow.holds Tryd.pinned (OpenSpec.ofChange clashPathsSpec)

/-- ITS FALSE NEIGHBOUR: 'it returns false'. Refute it at one input. -/
def clashPathsWrong : ChangeSpec := { name := "clashPaths", fn := fun _ => fun
  | [d1, d2, d3, d4] => { results := [.lit (.bool false)], args := [d1, d2, d3, d4] }
  | _ => none }
def ClashPathsWrongFalsely : Prop := clashPathsRow.holds Tryd.pinned (OpenSpec.ofChange clashPathsWrong)

/-- 'estreatlaw22.ClashGrown': WHATEVER THE INPUT: true; the input reads as it did. -/
def clashGrownSpec : ChangeSpec := { name := "clashGrown", fn := fun _ => fun
  | [d1, d2, d3, d4] => { results := [.lit (.bool true)], args := [d1, d2, d3, d4] }
  | _ => none }
def clashGrownRow : OpenClaim := { program := "ytipaiielkpifoaadoor", sum := "947987afbf57c4574e68036ed83535618097fc8f9f256b1380da70a9c5f6840a", func := "estreat/estreatlaw22.ClashGrown", spec := "clashGrown", unfollowed := true, recurses := true, named := ["estreat/sha.table"], apart := false, laid := [("estreat/sha.table", laid_estreat_sha_table)] }
def ClashGrownSaid : Prop := clashGrownRow.holds Tryd.pinned (OpenSpec.ofChange clashGrownSpec)

/-- ITS FALSE NEIGHBOUR: 'it returns false'. Refute it at one input. -/
def clashGrownWrong : ChangeSpec := { name := "clashGrown", fn := fun _ => fun
  | [d1, d2, d3, d4] => { results := [.lit (.bool false)], args := [d1, d2, d3, d4] }
  | _ => none }
def ClashGrownWrongFalsely : Prop := clashGrownRow.holds Tryd.pinned (OpenSpec.ofChange clashGrownWrong)

/-- 'estreatlaw21.LedgerGrows': WHATEVER THE INPUT: true; the input reads as it did. -/
def ledgerGrowsSpec : ChangeSpec := { name := "ledgerGrows", fn := fun _ => fun
  | [d1, d2] => { results := [.lit (.bool true)], args := [d1, d2] }
  | _ => none }
def ledgerGrowsRow : OpenClaim := { program := "ytipaiielkpifoaadoor", sum := "947987afbf57c4574e68036ed83535618097fc8f9f256b1380da70a9c5f6840a", func := "estreat/estreatlaw21.LedgerGrows", spec := "ledgerGrows", recurses := true, named := ["estreat/sha.table"], apart := false, laid := [("estreat/sha.table", laid_estreat_sha_table)] }
def LedgerGrowsSaid : Prop := ledgerGrowsRow.holds Tryd.pinned (OpenSpec.ofChange ledgerGrowsSpec)

/-- ITS FALSE NEIGHBOUR: 'it returns false'. Refute it at one input. -/
def ledgerGrowsWrong : ChangeSpec := { name := "ledgerGrows", fn := fun _ => fun
  | [d1, d2] => { results := [.lit (.bool false)], args := [d1, d2] }
  | _ => none }
def LedgerGrowsWrongFalsely : Prop := ledgerGrowsRow.holds Tryd.pinned (OpenSpec.ofChange ledgerGrowsWrong)

/- THE SECOND FORM. 'bulk': how many values and letters a reading holds, each counted each time it is reached (what is shared counts as often as it is met; a slice's spare places count too). A statement '..UptoSaid' is the law's where the arguments, and the package variables that the reading takes, are together of bulk at most 1048576: NARROWER than '..Said'. Prove '..Said' where nothing that the law and all that it calls make is longer than what came in: it says more and counts as full. Else prove '..UptoSaid'. A law counts once. -/
mutual
def uptoBulk {H : Type} : DataW H → Nat
  | .lit (.string bytes) => bytes.length + 1
  | .lit _ => 1
  | .nil => 1
  | .ptr d => uptoBulk d + 1
  | .slice elems spare => uptoBulkAll elems + uptoBulkAll spare + 1
  | .agg parts => uptoBulkAll parts + 1
  | .iface _ d => uptoBulk d + 1
  | .map entries => uptoBulkEntries entries + 1
  | .held _ => 1
def uptoBulkAll {H : Type} : List (DataW H) → Nat
  | [] => 0
  | d :: r => uptoBulk d + uptoBulkAll r
def uptoBulkEntries {H : Type} : List (Lit × DataW H) → Nat
  | [] => 0
  | x :: r => uptoBulkEntry x + uptoBulkEntries r
def uptoBulkEntry {H : Type} : Lit × DataW H → Nat
  | (.string bytes, d) => bytes.length + uptoBulk d + 1
  | (_, d) => uptoBulk d + 1
 end
def uptoSmall : (H : Type) → List (DataW H) → Bool := fun _ ds => decide (uptoBulkAll ds ≤ 1048576)
def OpenSpec.upto (s : _root_.Go.ChangeSpec) : _root_.Go.OpenSpec := { _root_.Go.OpenSpec.ofChange s with cond := some uptoSmall }

/-- 'estreatlaw22.ClashLeaves', WHERE WHAT IT READS IS OF BULK AT MOST 1048576: true; the input reads as it did. -/
def clashLeavesUptoRow : OpenClaim := { program := "ytipaiielkpifoaadoor", sum := "947987afbf57c4574e68036ed83535618097fc8f9f256b1380da70a9c5f6840a", func := "estreat/estreatlaw22.ClashLeaves", spec := "clashLeaves", unfollowed := true, recurses := true, named := ["estreat/sha.table"], apart := false, laid := [("estreat/sha.table", laid_estreat_sha_table)], narrowed := true }
def ClashLeavesUptoSaid : Prop := clashLeavesUptoRow.holds Tryd.pinned (OpenSpec.upto clashLeavesSpec)

/-- 'estreatlaw22.ClashHeads', WHERE WHAT IT READS IS OF BULK AT MOST 1048576: true; the input reads as it did. -/
def clashHeadsUptoRow : OpenClaim := { program := "ytipaiielkpifoaadoor", sum := "947987afbf57c4574e68036ed83535618097fc8f9f256b1380da70a9c5f6840a", func := "estreat/estreatlaw22.ClashHeads", spec := "clashHeads", unfollowed := true, recurses := true, named := ["estreat/sha.table"], apart := false, laid := [("estreat/sha.table", laid_estreat_sha_table)], narrowed := true }
def ClashHeadsUptoSaid : Prop := clashHeadsUptoRow.holds Tryd.pinned (OpenSpec.upto clashHeadsSpec)

/-- 'estreatlaw21.LedgerPlays', WHERE WHAT IT READS IS OF BULK AT MOST 1048576: true; the input reads as it did. -/
def ledgerPlaysUptoRow : OpenClaim := { program := "ytipaiielkpifoaadoor", sum := "947987afbf57c4574e68036ed83535618097fc8f9f256b1380da70a9c5f6840a", func := "estreat/estreatlaw21.LedgerPlays", spec := "ledgerPlays", recurses := true, named := ["estreat/sha.table"], apart := false, laid := [("estreat/sha.table", laid_estreat_sha_table)], narrowed := true }
def LedgerPlaysUptoSaid : Prop := ledgerPlaysUptoRow.holds Tryd.pinned (OpenSpec.upto ledgerPlaysSpec)

/-- 'estreatlaw22.ClashPaths', WHERE WHAT IT READS IS OF BULK AT MOST 1048576: true; the input reads as it did. -/
def clashPathsUptoRow : OpenClaim := { program := "ytipaiielkpifoaadoor", sum := "947987afbf57c4574e68036ed83535618097fc8f9f256b1380da70a9c5f6840a", func := "estreat/estreatlaw22.ClashPaths", spec := "clashPaths", unfollowed := true, recurses := true, named := ["estreat/sha.table"], apart := false, laid := [("estreat/sha.table", laid_estreat_sha_table)], narrowed := true }
def ClashPathsUptoSaid : Prop := clashPathsUptoRow.holds Tryd.pinned (OpenSpec.upto clashPathsSpec)

/-- 'estreatlaw22.ClashGrown', WHERE WHAT IT READS IS OF BULK AT MOST 1048576: true; the input reads as it did. -/
def clashGrownUptoRow : OpenClaim := { program := "ytipaiielkpifoaadoor", sum := "947987afbf57c4574e68036ed83535618097fc8f9f256b1380da70a9c5f6840a", func := "estreat/estreatlaw22.ClashGrown", spec := "clashGrown", unfollowed := true, recurses := true, named := ["estreat/sha.table"], apart := false, laid := [("estreat/sha.table", laid_estreat_sha_table)], narrowed := true }
def ClashGrownUptoSaid : Prop := clashGrownUptoRow.holds Tryd.pinned (OpenSpec.upto clashGrownSpec)

/-- 'estreatlaw21.LedgerGrows', WHERE WHAT IT READS IS OF BULK AT MOST 1048576: true; the input reads as it did. -/
def ledgerGrowsUptoRow : OpenClaim := { program := "ytipaiielkpifoaadoor", sum := "947987afbf57c4574e68036ed83535618097fc8f9f256b1380da70a9c5f6840a", func := "estreat/estreatlaw21.LedgerGrows", spec := "ledgerGrows", recurses := true, named := ["estreat/sha.table"], apart := false, laid := [("estreat/sha.table", laid_estreat_sha_table)], narrowed := true }
def LedgerGrowsUptoSaid : Prop := ledgerGrowsUptoRow.holds Tryd.pinned (OpenSpec.upto ledgerGrowsSpec)

end Rows
end Go.Proofs.YtipaiielkpifoaaDoor
