/- ValueBack over whatever abstract arguments. No condition. -/
import Derived.Test.YtnciojaecelhmaaDoorR9
import Derived.Test.YtnciojaecelhmaaDoorRT
set_option linter.unusedVariables false
set_option maxRecDepth 100000
namespace Go.Proofs.YtnciojaecelhmaaDoor
open Go Go.Ab
theorem valueBack_any (H : Hp) (k : Nat) (us : List Value) (ht : H 2 = some hBlk) (h : AVs Tryd.prog H Tryd.f8.params.toList us) : ACalls Tryd.prog 4 8 us H k fun v _ _ => v = .bool true := by
  rw [Tryd.params8] at h
  obtain ⟨u1, r1, rfl, h1, h⟩ := AVs.cons_inv h
  obtain ⟨u2, r2, rfl, h2, h⟩ := AVs.cons_inv h
  cases AVs.nil_inv h
  obtain ⟨cols, B, d, rfl, g1, g2, g3⟩ := cols_arg' h1
  obtain ⟨rows, vs, C, e, rfl, g4, g5, g6, g7⟩ := rows_arg' h2
  exact valueBack H k ht cols B d g1 g2 g3 rows vs C e g4 g5 g6 (fun r hr => (g7 r hr).1) (fun r hr => (g7 r hr).2)
end Go.Proofs.YtnciojaecelhmaaDoor
