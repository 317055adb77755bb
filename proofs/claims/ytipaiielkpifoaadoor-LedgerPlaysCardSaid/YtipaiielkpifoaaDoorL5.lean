/- Contracts over the abstract states: the example of clashes; the statements on leaves and on heads. -/
import Derived.Test.YtipaiielkpifoaaDoorL4
set_option linter.unusedVariables false
set_option linter.unusedSimpArgs false
set_option maxRecDepth 100000
namespace Go.Proofs.YtipaiielkpifoaaDoor
open Go Go.Ab

section
variable (H : Hp) (k : Nat)

end

end Go.Proofs.YtipaiielkpifoaaDoor
