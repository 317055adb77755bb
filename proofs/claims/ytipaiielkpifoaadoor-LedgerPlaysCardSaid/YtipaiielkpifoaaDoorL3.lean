/- Contracts over the abstract states: what a search among leaves tells. -/
import Derived.Test.YtipaiielkpifoaaDoorL2
set_option linter.unusedVariables false
set_option linter.unusedSimpArgs false
set_option maxRecDepth 100000
namespace Go.Proofs.YtipaiielkpifoaaDoor
open Go Go.Ab

section
variable (H : Hp) (k : Nat)

end

end Go.Proofs.YtipaiielkpifoaaDoor
