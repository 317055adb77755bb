/- Contracts over the abstract states: the document's commands out of bytes. -/
import Derived.Test.YteoofihjmldllaaDoorR15
import Derived.Test.YteoofihjmldllaaDoorR11
import Derived.Test.YteoofihjmldllaaDoorZ0
import Derived.Test.YteoofihjmldllaaDoorP7
set_option linter.unusedVariables false
set_option linter.unusedSimpArgs false
set_option maxRecDepth 100000
namespace Go.Proofs.YteoofihjmldllaaDoor
open Go Go.Ab

section
variable (H : Hp) (k : Nat)

set_option maxHeartbeats 4000000 in
end

end Go.Proofs.YteoofihjmldllaaDoor

/- Contracts over the abstract states: the same predicates; PredTakes. -/
set_option linter.unusedVariables false
set_option linter.unusedSimpArgs false
set_option maxRecDepth 100000
namespace Go.Proofs.YteoofihjmldllaaDoor
open Go Go.Ab

section
variable (H : Hp) (k : Nat)

set_option maxHeartbeats 4000000 in
end

end Go.Proofs.YteoofihjmldllaaDoor
