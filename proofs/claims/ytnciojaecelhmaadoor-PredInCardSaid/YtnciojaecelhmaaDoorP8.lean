/- The statement that one of several is the one or the other, over whatever abstract arguments; a call's start with the listed variables. No condition. -/
import Derived.Test.YtnciojaecelhmaaDoorP7
import Derived.Test.YtnciojaecelhmaaDoorPA
set_option linter.unusedVariables false
set_option maxRecDepth 100000
namespace Go.Proofs.YtnciojaecelhmaaDoor
open Go Go.Ab
theorem predIn_any (H : Hp) (k : Nat) (us : List Value) (ht : H 0 = some shBlk) (h : AVs Tryd.prog H Tryd.f3.params.toList us) : ACalls Tryd.prog 3 3 us H k fun v _ _ => v = .bool true := by
  rw [Tryd.params3] at h
  obtain ⟨u1, r1, rfl, h1, h⟩ := AVs.cons_inv h
  obtain ⟨u2, r2, rfl, h2, h⟩ := AVs.cons_inv h
  obtain ⟨u3, r3, rfl, h3, h⟩ := AVs.cons_inv h
  obtain ⟨u4, r4, rfl, h4, h⟩ := AVs.cons_inv h
  cases AVs.nil_inv h
  obtain ⟨cols, C, e, rfl, g1, g2⟩ := cols_arg h1
  obtain ⟨vals, A, c, rfl, g3, g4, g5⟩ := row_arg h2
  obtain ⟨row, R, rc, rfl, g6, g7, g8⟩ := row_arg h3
  obtain ⟨y, rfl, y1, y2⟩ := int_arg h4
  exact (predIn_b H k ht cols C e g1.cells g2 vals A c g3 g4 g5 row R rc g6 g7 y y1 y2).mono fun v H' k' h => h.1
end Go.Proofs.YtnciojaecelhmaaDoor
