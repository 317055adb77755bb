/-
  NARROWER THAN 'FOR EVERY INPUT', by the rows' own cells (each row's printed sentence says how): PredIn: laid · ZoneMay: loops, laid · ZoneSound: loops, laid · ZoneTrue: loops, laid · ValueTakes: laid · ValueBack: laid · PredTakes: laid.
  DERIVED. THE GIVEN ROWS OF THIS SEAT. 7 by the template 'for every input the law returns true; each argument reads behind the call as it read before'; 0 by the template 'total and deterministic' (their statements: YtnciojaecelhmaaDoorTotals.lean).
  GIVEN WITH THE SEED: the statements are not yours to turn. If you find one false, say at which input.
  Laid BY PROGRAM, IN A SANDBOX (cutbox-rows.mjs): the forced cells as the released guide's own fill.sh prints them over the translation 83bb53757b09356c… (all of the seat's roots in one cut). By AI agents, Wed Nov 11 2026. No macro, syntax, notation, axiom, sorry.
-/
import Derived.Test.YtnciojaecelhmaaDoorChecked
import GoSem.Claim
import GoSem.ClaimJoined
import GoSem.ClaimMapViews
import Derived.JoinedTies
import Derived.KernelRfl
namespace Go.Proofs.YtnciojaecelhmaaDoor
/- THE CELL 'sum', in the pinned program and in every row, IS THE sha256 OF THE DUMP (.gsa) THAT YtnciojaecelhmaaDoorProg.lean LOADS. Nothing in Lean hashes anything: it is a label: what it is worth is what the hold of that sum in a sandbox is worth. -/
noncomputable def Tryd.pinned : Pinned := { name := "ytnciojaecelhmaadoor", sum := "83bb53757b09356cb45d6f61da4cbcc818ba7052352c972fceb2d032c82fe07d", checked := Tryd.checked }
namespace Rows
def none {H : Type} : Left H := { results := [], args := [] }

/- WHAT THE LISTED PACKAGE-LEVEL VARIABLES READ AS WHEN THE CALL BEGINS. Each datum BY PROGRAM (the guide's laid-datum.mjs) off the statement by which the dump's own 'gosem.cut.vars' lays the variable. In a bare row this is a premise. The card (YtnciojaecelhmaaDoorCards.lean) ties it to the program's text. -/
def laid_estreat_pred_shapes {H : Type} : DataW H := .agg [.agg [.lit (.bool false), .lit (.int .i64 0), .lit (.int .i64 0), .lit (.int .i64 0), .lit (.int .i64 0)], .agg [.lit (.bool true), .lit (.int .i64 1), .lit (.int .i64 1), .lit (.int .i64 0), .lit (.int .i64 0)], .agg [.lit (.bool true), .lit (.int .i64 1), .lit (.int .i64 1), .lit (.int .i64 0), .lit (.int .i64 0)], .agg [.lit (.bool true), .lit (.int .i64 1), .lit (.int .i64 1), .lit (.int .i64 0), .lit (.int .i64 0)], .agg [.lit (.bool true), .lit (.int .i64 1), .lit (.int .i64 1), .lit (.int .i64 0), .lit (.int .i64 0)], .agg [.lit (.bool true), .lit (.int .i64 1), .lit (.int .i64 1), .lit (.int .i64 0), .lit (.int .i64 0)], .agg [.lit (.bool true), .lit (.int .i64 1), .lit (.int .i64 1), .lit (.int .i64 0), .lit (.int .i64 0)], .agg [.lit (.bool true), .lit (.int .i64 0), .lit (.int .i64 256), .lit (.int .i64 0), .lit (.int .i64 0)], .agg [.lit (.bool true), .lit (.int .i64 2), .lit (.int .i64 2), .lit (.int .i64 0), .lit (.int .i64 0)], .agg [.lit (.bool true), .lit (.int .i64 0), .lit (.int .i64 0), .lit (.int .i64 0), .lit (.int .i64 0)], .agg [.lit (.bool false), .lit (.int .i64 0), .lit (.int .i64 0), .lit (.int .i64 1), .lit (.int .i64 256)], .agg [.lit (.bool false), .lit (.int .i64 0), .lit (.int .i64 0), .lit (.int .i64 1), .lit (.int .i64 256)], .agg [.lit (.bool false), .lit (.int .i64 0), .lit (.int .i64 0), .lit (.int .i64 1), .lit (.int .i64 1)]]
def laid_estreat_zone_all {H : Type} : DataW H := .agg [.lit (.bool true), .lit (.bool true), .lit (.bool true)]
def laid_errors_errorType {H : Type} : DataW H := .iface "internal/reflectlite.rtype" (.agg [.ptr (.lit (.string [101, 114, 114, 111, 114]))])

/-- 'estreatlaw16.PredIn': WHATEVER THE INPUT: true; the input reads as it did. -/
def predInSpec : ChangeSpec := { name := "predIn", fn := fun _ => fun
  | [d1, d2, d3, d4] => { results := [.lit (.bool true)], args := [d1, d2, d3, d4] }
  | _ => none }
def predInRow : OpenClaim := { program := "ytnciojaecelhmaadoor", sum := "83bb53757b09356cb45d6f61da4cbcc818ba7052352c972fceb2d032c82fe07d", func := "estreat/estreatlaw16.PredIn", spec := "predIn", unfollowed := true, recurses := true, named := ["estreat/pred.shapes"], apart := false, laid := [("estreat/pred.shapes", laid_estreat_pred_shapes)] }
def PredInSaid : Prop := predInRow.holds Tryd.pinned (OpenSpec.ofChange predInSpec)

/-- ITS FALSE NEIGHBOUR: 'it returns false'. Refute it at one input. -/
def predInWrong : ChangeSpec := { name := "predIn", fn := fun _ => fun
  | [d1, d2, d3, d4] => { results := [.lit (.bool false)], args := [d1, d2, d3, d4] }
  | _ => none }
def PredInWrongFalsely : Prop := predInRow.holds Tryd.pinned (OpenSpec.ofChange predInWrong)

/-- 'estreatlaw17.ZoneMay': WHATEVER THE INPUT: true; the input reads as it did. -/
def zoneMaySpec : ChangeSpec := { name := "zoneMay", fn := fun _ => fun
  | [d1, d2, d3] => { results := [.lit (.bool true)], args := [d1, d2, d3] }
  | _ => none }
def zoneMayRow : OpenClaim := { program := "ytnciojaecelhmaadoor", sum := "83bb53757b09356cb45d6f61da4cbcc818ba7052352c972fceb2d032c82fe07d", func := "estreat/estreatlaw17.ZoneMay", spec := "zoneMay", unfollowed := true, recurses := true, named := ["estreat/zone.all", "estreat/pred.shapes"], loops := true, apart := false, laid := [("estreat/pred.shapes", laid_estreat_pred_shapes), ("estreat/zone.all", laid_estreat_zone_all)] }
def ZoneMaySaid : Prop := zoneMayRow.holds Tryd.pinned (OpenSpec.ofChange zoneMaySpec)

/-- ITS FALSE NEIGHBOUR: 'it returns false'. Refute it at one input. -/
def zoneMayWrong : ChangeSpec := { name := "zoneMay", fn := fun _ => fun
  | [d1, d2, d3] => { results := [.lit (.bool false)], args := [d1, d2, d3] }
  | _ => none }
def ZoneMayWrongFalsely : Prop := zoneMayRow.holds Tryd.pinned (OpenSpec.ofChange zoneMayWrong)

/-- 'estreatlaw17.ZoneSound': WHATEVER THE INPUT: true; the input reads as it did. -/
def zoneSoundSpec : ChangeSpec := { name := "zoneSound", fn := fun _ => fun
  | [d1, d2, d3, d4] => { results := [.lit (.bool true)], args := [d1, d2, d3, d4] }
  | _ => none }
def zoneSoundRow : OpenClaim := { program := "ytnciojaecelhmaadoor", sum := "83bb53757b09356cb45d6f61da4cbcc818ba7052352c972fceb2d032c82fe07d", func := "estreat/estreatlaw17.ZoneSound", spec := "zoneSound", unfollowed := true, recurses := true, named := ["estreat/pred.shapes", "estreat/zone.all"], loops := true, apart := false, laid := [("estreat/pred.shapes", laid_estreat_pred_shapes), ("estreat/zone.all", laid_estreat_zone_all)] }
def ZoneSoundSaid : Prop := zoneSoundRow.holds Tryd.pinned (OpenSpec.ofChange zoneSoundSpec)

/-- ITS FALSE NEIGHBOUR: 'it returns false'. Refute it at one input. -/
def zoneSoundWrong : ChangeSpec := { name := "zoneSound", fn := fun _ => fun
  | [d1, d2, d3, d4] => { results := [.lit (.bool false)], args := [d1, d2, d3, d4] }
  | _ => none }
def ZoneSoundWrongFalsely : Prop := zoneSoundRow.holds Tryd.pinned (OpenSpec.ofChange zoneSoundWrong)

/-- 'estreatlaw17.ZoneTrue': WHATEVER THE INPUT: true; the input reads as it did. -/
def zoneTrueSpec : ChangeSpec := { name := "zoneTrue", fn := fun _ => fun
  | [d1, d2, d3] => { results := [.lit (.bool true)], args := [d1, d2, d3] }
  | _ => none }
def zoneTrueRow : OpenClaim := { program := "ytnciojaecelhmaadoor", sum := "83bb53757b09356cb45d6f61da4cbcc818ba7052352c972fceb2d032c82fe07d", func := "estreat/estreatlaw17.ZoneTrue", spec := "zoneTrue", unfollowed := true, recurses := true, named := ["estreat/pred.shapes", "estreat/zone.all"], loops := true, apart := false, laid := [("estreat/pred.shapes", laid_estreat_pred_shapes), ("estreat/zone.all", laid_estreat_zone_all)] }
def ZoneTrueSaid : Prop := zoneTrueRow.holds Tryd.pinned (OpenSpec.ofChange zoneTrueSpec)

/-- ITS FALSE NEIGHBOUR: 'it returns false'. Refute it at one input. -/
def zoneTrueWrong : ChangeSpec := { name := "zoneTrue", fn := fun _ => fun
  | [d1, d2, d3] => { results := [.lit (.bool false)], args := [d1, d2, d3] }
  | _ => none }
def ZoneTrueWrongFalsely : Prop := zoneTrueRow.holds Tryd.pinned (OpenSpec.ofChange zoneTrueWrong)

/-- 'estreatlaw15.ValueTakes': WHATEVER THE INPUT: true; the input reads as it did. -/
def valueTakesSpec : ChangeSpec := { name := "valueTakes", fn := fun _ => fun
  | [d1, d2] => { results := [.lit (.bool true)], args := [d1, d2] }
  | _ => none }
def valueTakesRow : OpenClaim := { program := "ytnciojaecelhmaadoor", sum := "83bb53757b09356cb45d6f61da4cbcc818ba7052352c972fceb2d032c82fe07d", func := "estreat/estreatlaw15.ValueTakes", spec := "valueTakes", inPlace := ["internal/reflectlite.ValueOf", "(internal/reflectlite.Value).Type", "(internal/reflectlite.Value).IsNil", "internal/reflectlite.TypeOf", "(internal/reflectlite.Value).Elem", "(internal/reflectlite.Value).Set"], unfollowed := true, recurses := true, named := ["errors.errorType"], apart := false, laid := [("errors.errorType", laid_errors_errorType)] }
def ValueTakesSaid : Prop := valueTakesRow.holds Tryd.pinned (OpenSpec.ofChange valueTakesSpec)

/-- ITS FALSE NEIGHBOUR: 'it returns false'. Refute it at one input. -/
def valueTakesWrong : ChangeSpec := { name := "valueTakes", fn := fun _ => fun
  | [d1, d2] => { results := [.lit (.bool false)], args := [d1, d2] }
  | _ => none }
def ValueTakesWrongFalsely : Prop := valueTakesRow.holds Tryd.pinned (OpenSpec.ofChange valueTakesWrong)

/-- 'estreatlaw15.ValueBack': WHATEVER THE INPUT: true; the input reads as it did. -/
def valueBackSpec : ChangeSpec := { name := "valueBack", fn := fun _ => fun
  | [d1, d2] => { results := [.lit (.bool true)], args := [d1, d2] }
  | _ => none }
def valueBackRow : OpenClaim := { program := "ytnciojaecelhmaadoor", sum := "83bb53757b09356cb45d6f61da4cbcc818ba7052352c972fceb2d032c82fe07d", func := "estreat/estreatlaw15.ValueBack", spec := "valueBack", inPlace := ["internal/reflectlite.ValueOf", "(internal/reflectlite.Value).Type", "(internal/reflectlite.Value).IsNil", "internal/reflectlite.TypeOf", "(internal/reflectlite.Value).Elem", "(internal/reflectlite.Value).Set"], unfollowed := true, recurses := true, named := ["errors.errorType"], apart := false, laid := [("errors.errorType", laid_errors_errorType)] }
def ValueBackSaid : Prop := valueBackRow.holds Tryd.pinned (OpenSpec.ofChange valueBackSpec)

/-- ITS FALSE NEIGHBOUR: 'it returns false'. Refute it at one input. -/
def valueBackWrong : ChangeSpec := { name := "valueBack", fn := fun _ => fun
  | [d1, d2] => { results := [.lit (.bool false)], args := [d1, d2] }
  | _ => none }
def ValueBackWrongFalsely : Prop := valueBackRow.holds Tryd.pinned (OpenSpec.ofChange valueBackWrong)

/-- 'estreatlaw16.PredTakes': WHATEVER THE INPUT: true; the input reads as it did. -/
def predTakesSpec : ChangeSpec := { name := "predTakes", fn := fun _ => fun
  | [d] => { results := [.lit (.bool true)], args := [d] }
  | _ => none }
def predTakesRow : OpenClaim := { program := "ytnciojaecelhmaadoor", sum := "83bb53757b09356cb45d6f61da4cbcc818ba7052352c972fceb2d032c82fe07d", func := "estreat/estreatlaw16.PredTakes", spec := "predTakes", inPlace := ["internal/reflectlite.ValueOf", "(internal/reflectlite.Value).Type", "(internal/reflectlite.Value).IsNil", "internal/reflectlite.TypeOf", "(internal/reflectlite.Value).Elem", "(internal/reflectlite.Value).Set"], unfollowed := true, recurses := true, named := ["estreat/pred.shapes", "errors.errorType"], apart := false, laid := [("errors.errorType", laid_errors_errorType), ("estreat/pred.shapes", laid_estreat_pred_shapes)] }
def PredTakesSaid : Prop := predTakesRow.holds Tryd.pinned (OpenSpec.ofChange predTakesSpec)

/-- ITS FALSE NEIGHBOUR: 'it returns false'. Refute it at one input. -/
def predTakesWrong : ChangeSpec := { name := "predTakes", fn := fun _ => fun
  | [d] => { results := [.lit (.bool false)], args := [d] }
  | _ => none }
def PredTakesWrongFalsely : Prop := predTakesRow.holds Tryd.pinned (OpenSpec.ofChange predTakesWrong)

/- THE SECOND FORM. 'bulk': how many values and letters a reading holds, each counted each time it is reached (what is shared counts as often as it is met; a slice's spare places count too). A statement '..UptoSaid' is the law's where the arguments, and the package variables that the reading takes, are together of bulk at most 1048576: NARROWER than '..Said'. Prove '..Said' where nothing that the law and all that it calls make is longer than what came in: it says more and counts as full. Else prove '..UptoSaid'. A law counts once. -/
mutual
def uptoBulk {H : Type} : DataW H → Nat
  | .lit (.string bytes) => bytes.length + 1
  | .lit _ => 1
  | .nil => 1
  | .ptr d => uptoBulk d + 1
  | .slice elems spare => uptoBulkAll elems + uptoBulkAll spare + 1
  | .agg parts => uptoBulkAll parts + 1
  | .iface _ d => uptoBulk d + 1
  | .map entries => uptoBulkEntries entries + 1
  | .held _ => 1
def uptoBulkAll {H : Type} : List (DataW H) → Nat
  | [] => 0
  | d :: r => uptoBulk d + uptoBulkAll r
def uptoBulkEntries {H : Type} : List (Lit × DataW H) → Nat
  | [] => 0
  | x :: r => uptoBulkEntry x + uptoBulkEntries r
def uptoBulkEntry {H : Type} : Lit × DataW H → Nat
  | (.string bytes, d) => bytes.length + uptoBulk d + 1
  | (_, d) => uptoBulk d + 1
 end
def uptoSmall : (H : Type) → List (DataW H) → Bool := fun _ ds => decide (uptoBulkAll ds ≤ 1048576)
def OpenSpec.upto (s : _root_.Go.ChangeSpec) : _root_.Go.OpenSpec := { _root_.Go.OpenSpec.ofChange s with cond := some uptoSmall }

/-- 'estreatlaw16.PredIn', WHERE WHAT IT READS IS OF BULK AT MOST 1048576: true; the input reads as it did. -/
def predInUptoRow : OpenClaim := { program := "ytnciojaecelhmaadoor", sum := "83bb53757b09356cb45d6f61da4cbcc818ba7052352c972fceb2d032c82fe07d", func := "estreat/estreatlaw16.PredIn", spec := "predIn", unfollowed := true, recurses := true, named := ["estreat/pred.shapes"], apart := false, laid := [("estreat/pred.shapes", laid_estreat_pred_shapes)], narrowed := true }
def PredInUptoSaid : Prop := predInUptoRow.holds Tryd.pinned (OpenSpec.upto predInSpec)

/-- 'estreatlaw17.ZoneMay', WHERE WHAT IT READS IS OF BULK AT MOST 1048576: true; the input reads as it did. -/
def zoneMayUptoRow : OpenClaim := { program := "ytnciojaecelhmaadoor", sum := "83bb53757b09356cb45d6f61da4cbcc818ba7052352c972fceb2d032c82fe07d", func := "estreat/estreatlaw17.ZoneMay", spec := "zoneMay", unfollowed := true, recurses := true, named := ["estreat/zone.all", "estreat/pred.shapes"], loops := true, apart := false, laid := [("estreat/pred.shapes", laid_estreat_pred_shapes), ("estreat/zone.all", laid_estreat_zone_all)], narrowed := true }
def ZoneMayUptoSaid : Prop := zoneMayUptoRow.holds Tryd.pinned (OpenSpec.upto zoneMaySpec)

/-- 'estreatlaw17.ZoneSound', WHERE WHAT IT READS IS OF BULK AT MOST 1048576: true; the input reads as it did. -/
def zoneSoundUptoRow : OpenClaim := { program := "ytnciojaecelhmaadoor", sum := "83bb53757b09356cb45d6f61da4cbcc818ba7052352c972fceb2d032c82fe07d", func := "estreat/estreatlaw17.ZoneSound", spec := "zoneSound", unfollowed := true, recurses := true, named := ["estreat/pred.shapes", "estreat/zone.all"], loops := true, apart := false, laid := [("estreat/pred.shapes", laid_estreat_pred_shapes), ("estreat/zone.all", laid_estreat_zone_all)], narrowed := true }
def ZoneSoundUptoSaid : Prop := zoneSoundUptoRow.holds Tryd.pinned (OpenSpec.upto zoneSoundSpec)

/-- 'estreatlaw17.ZoneTrue', WHERE WHAT IT READS IS OF BULK AT MOST 1048576: true; the input reads as it did. -/
def zoneTrueUptoRow : OpenClaim := { program := "ytnciojaecelhmaadoor", sum := "83bb53757b09356cb45d6f61da4cbcc818ba7052352c972fceb2d032c82fe07d", func := "estreat/estreatlaw17.ZoneTrue", spec := "zoneTrue", unfollowed := true, recurses := true, named := ["estreat/pred.shapes", "estreat/zone.all"], loops := true, apart := false, laid := [("estreat/pred.shapes", laid_estreat_pred_shapes), ("estreat/zone.all", laid_estreat_zone_all)], narrowed := true }
def ZoneTrueUptoSaid : Prop := zoneTrueUptoRow.holds Tryd.pinned (OpenSpec.upto zoneTrueSpec)

/-- 'estreatlaw15.ValueTakes', WHERE WHAT IT READS IS OF BULK AT MOST 1048576: true; the input reads as it did. -/
def valueTakesUptoRow : OpenClaim := { program := "ytnciojaecelhmaadoor", sum := "83bb53757b09356cb45d6f61da4cbcc818ba7052352c972fceb2d032c82fe07d", func := "estreat/estreatlaw15.ValueTakes", spec := "valueTakes", inPlace := ["internal/reflectlite.ValueOf", "(internal/reflectlite.Value).Type", "(internal/reflectlite.Value).IsNil", "internal/reflectlite.TypeOf", "(internal/reflectlite.Value).Elem", "(internal/reflectlite.Value).Set"], unfollowed := true, recurses := true, named := ["errors.errorType"], apart := false, laid := [("errors.errorType", laid_errors_errorType)], narrowed := true }
def ValueTakesUptoSaid : Prop := valueTakesUptoRow.holds Tryd.pinned (OpenSpec.upto valueTakesSpec)

/-- 'estreatlaw15.ValueBack', WHERE WHAT IT READS IS OF BULK AT MOST 1048576: true; the input reads as it did. -/
def valueBackUptoRow : OpenClaim := { program := "ytnciojaecelhmaadoor", sum := "83bb53757b09356cb45d6f61da4cbcc818ba7052352c972fceb2d032c82fe07d", func := "estreat/estreatlaw15.ValueBack", spec := "valueBack", inPlace := ["internal/reflectlite.ValueOf", "(internal/reflectlite.Value).Type", "(internal/reflectlite.Value).IsNil", "internal/reflectlite.TypeOf", "(internal/reflectlite.Value).Elem", "(internal/reflectlite.Value).Set"], unfollowed := true, recurses := true, named := ["errors.errorType"], apart := false, laid := [("errors.errorType", laid_errors_errorType)], narrowed := true }
def ValueBackUptoSaid : Prop := valueBackUptoRow.holds Tryd.pinned (OpenSpec.upto valueBackSpec)

/-- 'estreatlaw16.PredTakes', WHERE WHAT IT READS IS OF BULK AT MOST 1048576: true; the input reads as it did. -/
def predTakesUptoRow : OpenClaim := { program := "ytnciojaecelhmaadoor", sum := "83bb53757b09356cb45d6f61da4cbcc818ba7052352c972fceb2d032c82fe07d", func := "estreat/estreatlaw16.PredTakes", spec := "predTakes", inPlace := ["internal/reflectlite.ValueOf", "(internal/reflectlite.Value).Type", "(internal/reflectlite.Value).IsNil", "internal/reflectlite.TypeOf", "(internal/reflectlite.Value).Elem", "(internal/reflectlite.Value).Set"], unfollowed := true, recurses := true, named := ["estreat/pred.shapes", "errors.errorType"], apart := false, laid := [("errors.errorType", laid_errors_errorType), ("estreat/pred.shapes", laid_estreat_pred_shapes)], narrowed := true }
def PredTakesUptoSaid : Prop := predTakesUptoRow.holds Tryd.pinned (OpenSpec.upto predTakesSpec)

end Rows
end Go.Proofs.YtnciojaecelhmaaDoor
