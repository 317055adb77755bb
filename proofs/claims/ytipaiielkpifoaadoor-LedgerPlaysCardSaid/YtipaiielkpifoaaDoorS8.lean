/- Contracts over the abstract states: the statements on digests. -/
import Derived.Test.YtipaiielkpifoaaDoorS7
set_option linter.unusedVariables false
set_option linter.unusedSimpArgs false
set_option maxRecDepth 100000
namespace Go.Proofs.YtipaiielkpifoaaDoor
open Go Go.Ab

section
variable (H : Hp) (k : Nat)


end

end Go.Proofs.YtipaiielkpifoaaDoor
