/- Contracts over the abstract states: texts of leaves and nodes, the same leaves, halves, and what a search among leaves tells. -/
import Derived.Test.YtipaiielkpifoaaDoorL1
set_option linter.unusedVariables false
set_option linter.unusedSimpArgs false
set_option maxRecDepth 100000
namespace Go.Proofs.YtipaiielkpifoaaDoor
open Go Go.Ab

theorem stays_sub {A B : Hp} (h : Ab.Sub A B) : ∀ n b, A n = some b → ∃ b', B n = some b' := fun n b hn => ⟨b, h n b hn⟩
section
variable (H : Hp) (k : Nat)

end

end Go.Proofs.YtipaiielkpifoaaDoor
