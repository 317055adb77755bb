/- The statements on zones of rows, over whatever abstract arguments. No condition. -/
import Derived.Test.YtnciojaecelhmaaDoorZ10
set_option linter.unusedVariables false
set_option maxRecDepth 100000
namespace Go.Proofs.YtnciojaecelhmaaDoor
open Go Go.Ab
theorem zoneSound_any (H : Hp) (k : Nat) (us : List Value) (ht : H 0 = some shBlk) (ht1 : H 1 = some allBlk) (h : AVs Tryd.prog H Tryd.f5.params.toList us) : ACalls Tryd.prog 3 5 us H k fun v _ _ => v = .bool true := by
  rw [Tryd.params5] at h
  obtain ⟨u1, r1, rfl, h1, h⟩ := AVs.cons_inv h
  obtain ⟨u2, r2, rfl, h2, h⟩ := AVs.cons_inv h
  obtain ⟨u3, r3, rfl, h3, h⟩ := AVs.cons_inv h
  obtain ⟨u4, r4, rfl, h4, h⟩ := AVs.cons_inv h
  cases AVs.nil_inv h
  obtain ⟨cols, C, e, rfl, g1, g2⟩ := cols_arg h1
  obtain ⟨p, hp⟩ := pred_arg h2
  obtain ⟨rows, vs, R, rc, rfl, g3, g4, g5, g6⟩ := rows_arg h3
  obtain ⟨y, rfl, y1, y2⟩ := int_arg h4
  exact (zoneSound_b H k ht ht1 cols C e g1.cells g2 p _ hp rows vs R rc g3 g4 g6 g5 y y1 y2).mono fun v H' k' h => h.1
end Go.Proofs.YtnciojaecelhmaaDoor
