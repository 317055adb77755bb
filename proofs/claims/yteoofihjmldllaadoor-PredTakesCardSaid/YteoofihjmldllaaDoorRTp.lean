/- PredTakes over whatever abstract arguments. No condition. -/
import Derived.Test.YteoofihjmldllaaDoorR14
import Derived.Test.YteoofihjmldllaaDoorRT
set_option linter.unusedVariables false
set_option maxRecDepth 100000
namespace Go.Proofs.YteoofihjmldllaaDoor
open Go Go.Ab
theorem predTakes_any (H : Hp) (k : Nat) (us : List Value) (ht : H 0 = some shBlk) (h2 : H 1 = some hBlk) (h : AVs Tryd.prog H Tryd.f3.params.toList us) : ACalls Tryd.prog 3 3 us H k fun v _ _ => v = .bool true := by
  rw [Tryd.params3] at h
  obtain ⟨u1, r1, rfl, h1, h⟩ := AVs.cons_inv h
  cases AVs.nil_inv h
  obtain ⟨bs, A, c, rfl, g1, g2⟩ := bytes_arg' h1
  exact predTakes H k ht h2 bs A c g1 g2
end Go.Proofs.YteoofihjmldllaaDoor
