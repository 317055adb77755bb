/- LogTakes over whatever abstract arguments. No condition. -/
import Derived.Test.YteoofihjmldllaaDoorR17
import Derived.Test.YteoofihjmldllaaDoorRT
set_option linter.unusedVariables false
set_option maxRecDepth 100000
namespace Go.Proofs.YteoofihjmldllaaDoor
open Go Go.Ab
theorem logTakes_any (H : Hp) (k : Nat) (us : List Value) (ht : H 1 = some hBlk) (h : AVs Tryd.prog H Tryd.f4.params.toList us) : ACalls Tryd.prog 3 4 us H k fun v _ _ => v = .bool true := by
  rw [Tryd.params4] at h
  obtain ⟨u1, r1, rfl, h1, h⟩ := AVs.cons_inv h
  obtain ⟨u2, r2, rfl, h2, h⟩ := AVs.cons_inv h
  cases AVs.nil_inv h
  obtain ⟨bs, A, c, rfl, g1, g2⟩ := bytes_arg' h1
  obtain ⟨cols, B, d, rfl, g3, g4, _⟩ := cols_arg' h2
  exact logTakes H k ht bs A c g1 g2 cols B d g3 g4
end Go.Proofs.YteoofihjmldllaaDoor
