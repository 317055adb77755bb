/- What the arguments of the statements on values, predicates and zones are. No condition. -/
import Derived.Test.YteoofihjmldllaaDoorP3
set_option linter.unusedVariables false
set_option maxRecDepth 100000
namespace Go.Proofs.YteoofihjmldllaaDoor
open Go Go.Ab
theorem plain_slc {e : TypeId} : (∀ fs, TypeDesc.slice e ≠ .struct fs) ∧ ∀ n e', TypeDesc.slice e ≠ .array n e' := ⟨fun _ h => (TypeDesc.noConfusion h), fun _ _ h => (TypeDesc.noConfusion h)⟩
end Go.Proofs.YteoofihjmldllaaDoor
