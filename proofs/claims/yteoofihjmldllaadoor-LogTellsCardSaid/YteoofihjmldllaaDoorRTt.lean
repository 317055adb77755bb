/- LogTells over whatever abstract arguments. No condition. -/
import Derived.Test.YteoofihjmldllaaDoorR24
import Derived.Test.YteoofihjmldllaaDoorRQ
set_option linter.unusedVariables false
set_option maxRecDepth 100000
namespace Go.Proofs.YteoofihjmldllaaDoor
open Go Go.Ab
theorem logTells_any (H : Hp) (k : Nat) (us : List Value) (ht : H 1 = some hBlk) (h : AVs Tryd.prog H Tryd.f6.params.toList us) : ACalls Tryd.prog 3 6 us H k fun v _ _ => v = .bool true := by
  rw [Tryd.params6] at h
  obtain ⟨u1, r1, rfl, h1, h⟩ := AVs.cons_inv h
  obtain ⟨u2, r2, rfl, h2, h⟩ := AVs.cons_inv h
  obtain ⟨u3, r3, rfl, h3, h⟩ := AVs.cons_inv h
  cases AVs.nil_inv h
  obtain ⟨a, ao, ha⟩ := cm_arg h1
  obtain ⟨b, bo, hb⟩ := cm_arg h2
  obtain ⟨cols, B, d, rfl, g3, g4, _⟩ := cols_arg' h3
  exact logTells H k ht a b ao bo u1 u2 ha hb cols B d g3 g4
end Go.Proofs.YteoofihjmldllaaDoor
