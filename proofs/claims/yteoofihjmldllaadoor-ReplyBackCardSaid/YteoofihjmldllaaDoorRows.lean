/-
  NARROWER THAN 'FOR EVERY INPUT', by the rows' own cells (each row's printed sentence says how): PredTakes: laid · LogTakes: laid · LogBack: loops, laid · LogTells: loops, laid · ReplyBack: laid.
  DERIVED. THE GIVEN ROWS OF THIS SEAT. 5 by the template 'for every input the law returns true; each argument reads behind the call as it read before'; 0 by the template 'total and deterministic' (their statements: YteoofihjmldllaaDoorTotals.lean).
  GIVEN WITH THE SEED: the statements are not yours to turn. If you find one false, say at which input.
  Laid BY PROGRAM, IN A SANDBOX (cutbox-rows.mjs): the forced cells as the released guide's own fill.sh prints them over the translation fc850c72f7040bf0… (all of the seat's roots in one cut). By AI agents, Wed Nov 11 2026. No macro, syntax, notation, axiom, sorry.
-/
import Derived.Test.YteoofihjmldllaaDoorChecked
import GoSem.Claim
import GoSem.ClaimJoined
import GoSem.ClaimMapViews
import Derived.JoinedTies
import Derived.KernelRfl
namespace Go.Proofs.YteoofihjmldllaaDoor
/- THE CELL 'sum', in the pinned program and in every row, IS THE sha256 OF THE DUMP (.gsa) THAT YteoofihjmldllaaDoorProg.lean LOADS. Nothing in Lean hashes anything: it is a label: what it is worth is what the hold of that sum in a sandbox is worth. -/
noncomputable def Tryd.pinned : Pinned := { name := "yteoofihjmldllaadoor", sum := "fc850c72f7040bf069e70b246c55104f06dbf7357690082016c9106cb3838fe4", checked := Tryd.checked }
namespace Rows
def none {H : Type} : Left H := { results := [], args := [] }

/- WHAT THE LISTED PACKAGE-LEVEL VARIABLES READ AS WHEN THE CALL BEGINS. Each datum BY PROGRAM (the guide's laid-datum.mjs) off the statement by which the dump's own 'gosem.cut.vars' lays the variable. In a bare row this is a premise. The card (YteoofihjmldllaaDoorCards.lean) ties it to the program's text. -/
def laid_errors_errorType {H : Type} : DataW H := .iface "internal/reflectlite.rtype" (.agg [.ptr (.lit (.string [101, 114, 114, 111, 114]))])
def laid_estreat_pred_shapes {H : Type} : DataW H := .agg [.agg [.lit (.bool false), .lit (.int .i64 0), .lit (.int .i64 0), .lit (.int .i64 0), .lit (.int .i64 0)], .agg [.lit (.bool true), .lit (.int .i64 1), .lit (.int .i64 1), .lit (.int .i64 0), .lit (.int .i64 0)], .agg [.lit (.bool true), .lit (.int .i64 1), .lit (.int .i64 1), .lit (.int .i64 0), .lit (.int .i64 0)], .agg [.lit (.bool true), .lit (.int .i64 1), .lit (.int .i64 1), .lit (.int .i64 0), .lit (.int .i64 0)], .agg [.lit (.bool true), .lit (.int .i64 1), .lit (.int .i64 1), .lit (.int .i64 0), .lit (.int .i64 0)], .agg [.lit (.bool true), .lit (.int .i64 1), .lit (.int .i64 1), .lit (.int .i64 0), .lit (.int .i64 0)], .agg [.lit (.bool true), .lit (.int .i64 1), .lit (.int .i64 1), .lit (.int .i64 0), .lit (.int .i64 0)], .agg [.lit (.bool true), .lit (.int .i64 0), .lit (.int .i64 256), .lit (.int .i64 0), .lit (.int .i64 0)], .agg [.lit (.bool true), .lit (.int .i64 2), .lit (.int .i64 2), .lit (.int .i64 0), .lit (.int .i64 0)], .agg [.lit (.bool true), .lit (.int .i64 0), .lit (.int .i64 0), .lit (.int .i64 0), .lit (.int .i64 0)], .agg [.lit (.bool false), .lit (.int .i64 0), .lit (.int .i64 0), .lit (.int .i64 1), .lit (.int .i64 256)], .agg [.lit (.bool false), .lit (.int .i64 0), .lit (.int .i64 0), .lit (.int .i64 1), .lit (.int .i64 256)], .agg [.lit (.bool false), .lit (.int .i64 0), .lit (.int .i64 0), .lit (.int .i64 1), .lit (.int .i64 1)]]

/-- 'estreatlaw16.PredTakes': WHATEVER THE INPUT: true; the input reads as it did. -/
def predTakesSpec : ChangeSpec := { name := "predTakes", fn := fun _ => fun
  | [d] => { results := [.lit (.bool true)], args := [d] }
  | _ => none }
def predTakesRow : OpenClaim := { program := "yteoofihjmldllaadoor", sum := "fc850c72f7040bf069e70b246c55104f06dbf7357690082016c9106cb3838fe4", func := "estreat/estreatlaw16.PredTakes", spec := "predTakes", inPlace := ["internal/reflectlite.ValueOf", "(internal/reflectlite.Value).Type", "(internal/reflectlite.Value).IsNil", "internal/reflectlite.TypeOf", "(internal/reflectlite.Value).Elem", "(internal/reflectlite.Value).Set"], unfollowed := true, recurses := true, named := ["estreat/pred.shapes", "errors.errorType"], apart := false, laid := [("errors.errorType", laid_errors_errorType), ("estreat/pred.shapes", laid_estreat_pred_shapes)] }
def PredTakesSaid : Prop := predTakesRow.holds Tryd.pinned (OpenSpec.ofChange predTakesSpec)

/-- ITS FALSE NEIGHBOUR: 'it returns false'. Refute it at one input. -/
def predTakesWrong : ChangeSpec := { name := "predTakes", fn := fun _ => fun
  | [d] => { results := [.lit (.bool false)], args := [d] }
  | _ => none }
def PredTakesWrongFalsely : Prop := predTakesRow.holds Tryd.pinned (OpenSpec.ofChange predTakesWrong)

/-- 'estreatlaw25.LogTakes': WHATEVER THE INPUT: true; the input reads as it did. -/
def logTakesSpec : ChangeSpec := { name := "logTakes", fn := fun _ => fun
  | [d1, d2] => { results := [.lit (.bool true)], args := [d1, d2] }
  | _ => none }
def logTakesRow : OpenClaim := { program := "yteoofihjmldllaadoor", sum := "fc850c72f7040bf069e70b246c55104f06dbf7357690082016c9106cb3838fe4", func := "estreat/estreatlaw25.LogTakes", spec := "logTakes", inPlace := ["internal/reflectlite.ValueOf", "(internal/reflectlite.Value).Type", "(internal/reflectlite.Value).IsNil", "internal/reflectlite.TypeOf", "(internal/reflectlite.Value).Elem", "(internal/reflectlite.Value).Set"], unfollowed := true, recurses := true, named := ["errors.errorType"], apart := false, laid := [("errors.errorType", laid_errors_errorType)] }
def LogTakesSaid : Prop := logTakesRow.holds Tryd.pinned (OpenSpec.ofChange logTakesSpec)

/-- ITS FALSE NEIGHBOUR: 'it returns false'. Refute it at one input. -/
def logTakesWrong : ChangeSpec := { name := "logTakes", fn := fun _ => fun
  | [d1, d2] => { results := [.lit (.bool false)], args := [d1, d2] }
  | _ => none }
def LogTakesWrongFalsely : Prop := logTakesRow.holds Tryd.pinned (OpenSpec.ofChange logTakesWrong)

/-- 'estreatlaw25.LogBack': WHATEVER THE INPUT: true; the input reads as it did. -/
def logBackSpec : ChangeSpec := { name := "logBack", fn := fun _ => fun
  | [d1, d2, d3] => { results := [.lit (.bool true)], args := [d1, d2, d3] }
  | _ => none }
def logBackRow : OpenClaim := { program := "yteoofihjmldllaadoor", sum := "fc850c72f7040bf069e70b246c55104f06dbf7357690082016c9106cb3838fe4", func := "estreat/estreatlaw25.LogBack", spec := "logBack", inPlace := ["internal/reflectlite.ValueOf", "(internal/reflectlite.Value).Type", "(internal/reflectlite.Value).IsNil", "internal/reflectlite.TypeOf", "(internal/reflectlite.Value).Elem", "(internal/reflectlite.Value).Set"], unfollowed := true, recurses := true, named := ["errors.errorType"], loops := true, apart := false, laid := [("errors.errorType", laid_errors_errorType)] }
def LogBackSaid : Prop := logBackRow.holds Tryd.pinned (OpenSpec.ofChange logBackSpec)

/-- ITS FALSE NEIGHBOUR: 'it returns false'. Refute it at one input. -/
def logBackWrong : ChangeSpec := { name := "logBack", fn := fun _ => fun
  | [d1, d2, d3] => { results := [.lit (.bool false)], args := [d1, d2, d3] }
  | _ => none }
def LogBackWrongFalsely : Prop := logBackRow.holds Tryd.pinned (OpenSpec.ofChange logBackWrong)

/-- 'estreatlaw25.LogTells': WHATEVER THE INPUT: true; the input reads as it did. -/
def logTellsSpec : ChangeSpec := { name := "logTells", fn := fun _ => fun
  | [d1, d2, d3] => { results := [.lit (.bool true)], args := [d1, d2, d3] }
  | _ => none }
def logTellsRow : OpenClaim := { program := "yteoofihjmldllaadoor", sum := "fc850c72f7040bf069e70b246c55104f06dbf7357690082016c9106cb3838fe4", func := "estreat/estreatlaw25.LogTells", spec := "logTells", inPlace := ["internal/reflectlite.ValueOf", "(internal/reflectlite.Value).Type", "(internal/reflectlite.Value).IsNil", "internal/reflectlite.TypeOf", "(internal/reflectlite.Value).Elem", "(internal/reflectlite.Value).Set"], unfollowed := true, recurses := true, named := ["errors.errorType"], loops := true, apart := false, laid := [("errors.errorType", laid_errors_errorType)] }
def LogTellsSaid : Prop := logTellsRow.holds Tryd.pinned (OpenSpec.ofChange logTellsSpec)

/-- ITS FALSE NEIGHBOUR: 'it returns false'. Refute it at one input. -/
def logTellsWrong : ChangeSpec := { name := "logTells", fn := fun _ => fun
  | [d1, d2, d3] => { results := [.lit (.bool false)], args := [d1, d2, d3] }
  | _ => none }
def LogTellsWrongFalsely : Prop := logTellsRow.holds Tryd.pinned (OpenSpec.ofChange logTellsWrong)

/-- 'estreatlaw29.ReplyBack': WHATEVER THE INPUT: true; the input reads as it did. -/
def replyBackSpec : ChangeSpec := { name := "replyBack", fn := fun _ => fun
  | [d1, d2] => { results := [.lit (.bool true)], args := [d1, d2] }
  | _ => none }
def replyBackRow : OpenClaim := { program := "yteoofihjmldllaadoor", sum := "fc850c72f7040bf069e70b246c55104f06dbf7357690082016c9106cb3838fe4", func := "estreat/estreatlaw29.ReplyBack", spec := "replyBack", inPlace := ["internal/reflectlite.ValueOf", "(internal/reflectlite.Value).Type", "(internal/reflectlite.Value).IsNil", "internal/reflectlite.TypeOf", "(internal/reflectlite.Value).Elem", "(internal/reflectlite.Value).Set"], unfollowed := true, recurses := true, named := ["errors.errorType"], apart := false, laid := [("errors.errorType", laid_errors_errorType)] }
def ReplyBackSaid : Prop := replyBackRow.holds Tryd.pinned (OpenSpec.ofChange replyBackSpec)

/-- ITS FALSE NEIGHBOUR: 'it returns false'. Refute it at one input. -/
def replyBackWrong : ChangeSpec := { name := "replyBack", fn := fun _ => fun
  | [d1, d2] => { results := [.lit (.bool false)], args := [d1, d2] }
  | _ => none }
def ReplyBackWrongFalsely : Prop := replyBackRow.holds Tryd.pinned (OpenSpec.ofChange replyBackWrong)

/- THE SECOND FORM. 'bulk': how many values and letters a reading holds, each counted each time it is reached (what is shared counts as often as it is met; a slice's spare places count too). A statement '..UptoSaid' is the law's where the arguments, and the package variables that the reading takes, are together of bulk at most 1048576: NARROWER than '..Said'. Prove '..Said' where nothing that the law and all that it calls make is longer than what came in: it says more and counts as full. Else prove '..UptoSaid'. A law counts once. -/
mutual
def uptoBulk {H : Type} : DataW H → Nat
  | .lit (.string bytes) => bytes.length + 1
  | .lit _ => 1
  | .nil => 1
  | .ptr d => uptoBulk d + 1
  | .slice elems spare => uptoBulkAll elems + uptoBulkAll spare + 1
  | .agg parts => uptoBulkAll parts + 1
  | .iface _ d => uptoBulk d + 1
  | .map entries => uptoBulkEntries entries + 1
  | .held _ => 1
def uptoBulkAll {H : Type} : List (DataW H) → Nat
  | [] => 0
  | d :: r => uptoBulk d + uptoBulkAll r
def uptoBulkEntries {H : Type} : List (Lit × DataW H) → Nat
  | [] => 0
  | x :: r => uptoBulkEntry x + uptoBulkEntries r
def uptoBulkEntry {H : Type} : Lit × DataW H → Nat
  | (.string bytes, d) => bytes.length + uptoBulk d + 1
  | (_, d) => uptoBulk d + 1
 end
def uptoSmall : (H : Type) → List (DataW H) → Bool := fun _ ds => decide (uptoBulkAll ds ≤ 1048576)
def OpenSpec.upto (s : _root_.Go.ChangeSpec) : _root_.Go.OpenSpec := { _root_.Go.OpenSpec.ofChange s with cond := some uptoSmall }

/-- 'estreatlaw16.PredTakes', WHERE WHAT IT READS IS OF BULK AT MOST 1048576: true; the input reads as it did. -/
def predTakesUptoRow : OpenClaim := { program := "yteoofihjmldllaadoor", sum := "fc850c72f7040bf069e70b246c55104f06dbf7357690082016c9106cb3838fe4", func := "estreat/estreatlaw16.PredTakes", spec := "predTakes", inPlace := ["internal/reflectlite.ValueOf", "(internal/reflectlite.Value).Type", "(internal/reflectlite.Value).IsNil", "internal/reflectlite.TypeOf", "(internal/reflectlite.Value).Elem", "(internal/reflectlite.Value).Set"], unfollowed := true, recurses := true, named := ["estreat/pred.shapes", "errors.errorType"], apart := false, laid := [("errors.errorType", laid_errors_errorType), ("estreat/pred.shapes", laid_estreat_pred_shapes)], narrowed := true }
def PredTakesUptoSaid : Prop := predTakesUptoRow.holds Tryd.pinned (OpenSpec.upto predTakesSpec)

/-- 'estreatlaw25.LogTakes', WHERE WHAT IT READS IS OF BULK AT MOST 1048576: true; the input reads as it did. -/
def logTakesUptoRow : OpenClaim := { program := "yteoofihjmldllaadoor", sum := "fc850c72f7040bf069e70b246c55104f06dbf7357690082016c9106cb3838fe4", func := "estreat/estreatlaw25.LogTakes", spec := "logTakes", inPlace := ["internal/reflectlite.ValueOf", "(internal/reflectlite.Value).Type", "(internal/reflectlite.Value).IsNil", "internal/reflectlite.TypeOf", "(internal/reflectlite.Value).Elem", "(internal/reflectlite.Value).Set"], unfollowed := true, recurses := true, named := ["errors.errorType"], apart := false, laid := [("errors.errorType", laid_errors_errorType)], narrowed := true }
def LogTakesUptoSaid : Prop := logTakesUptoRow.holds Tryd.pinned (OpenSpec.upto logTakesSpec)

/-- 'estreatlaw25.LogBack', WHERE WHAT IT READS IS OF BULK AT MOST 1048576: true; the input reads as it did. -/
def logBackUptoRow : OpenClaim := { program := "yteoofihjmldllaadoor", sum := "fc850c72f7040bf069e70b246c55104f06dbf7357690082016c9106cb3838fe4", func := "estreat/estreatlaw25.LogBack", spec := "logBack", inPlace := ["internal/reflectlite.ValueOf", "(internal/reflectlite.Value).Type", "(internal/reflectlite.Value).IsNil", "internal/reflectlite.TypeOf", "(internal/reflectlite.Value).Elem", "(internal/reflectlite.Value).Set"], unfollowed := true, recurses := true, named := ["errors.errorType"], loops := true, apart := false, laid := [("errors.errorType", laid_errors_errorType)], narrowed := true }
def LogBackUptoSaid : Prop := logBackUptoRow.holds Tryd.pinned (OpenSpec.upto logBackSpec)

/-- 'estreatlaw25.LogTells', WHERE WHAT IT READS IS OF BULK AT MOST 1048576: true; the input reads as it did. -/
def logTellsUptoRow : OpenClaim := { program := "yteoofihjmldllaadoor", sum := "fc850c72f7040bf069e70b246c55104f06dbf7357690082016c9106cb3838fe4", func := "estreat/estreatlaw25.LogTells", spec := "logTells", inPlace := ["internal/reflectlite.ValueOf", "(internal/reflectlite.Value).Type", "(internal/reflectlite.Value).IsNil", "internal/reflectlite.TypeOf", "(internal/reflectlite.Value).Elem", "(internal/reflectlite.Value).Set"], unfollowed := true, recurses := true, named := ["errors.errorType"], loops := true, apart := false, laid := [("errors.errorType", laid_errors_errorType)], narrowed := true }
def LogTellsUptoSaid : Prop := logTellsUptoRow.holds Tryd.pinned (OpenSpec.upto logTellsSpec)

/-- 'estreatlaw29.ReplyBack', WHERE WHAT IT READS IS OF BULK AT MOST 1048576: true; the input reads as it did. -/
def replyBackUptoRow : OpenClaim := { program := "yteoofihjmldllaadoor", sum := "fc850c72f7040bf069e70b246c55104f06dbf7357690082016c9106cb3838fe4", func := "estreat/estreatlaw29.ReplyBack", spec := "replyBack", inPlace := ["internal/reflectlite.ValueOf", "(internal/reflectlite.Value).Type", "(internal/reflectlite.Value).IsNil", "internal/reflectlite.TypeOf", "(internal/reflectlite.Value).Elem", "(internal/reflectlite.Value).Set"], unfollowed := true, recurses := true, named := ["errors.errorType"], apart := false, laid := [("errors.errorType", laid_errors_errorType)], narrowed := true }
def ReplyBackUptoSaid : Prop := replyBackUptoRow.holds Tryd.pinned (OpenSpec.upto replyBackSpec)

end Rows
end Go.Proofs.YteoofihjmldllaaDoor
