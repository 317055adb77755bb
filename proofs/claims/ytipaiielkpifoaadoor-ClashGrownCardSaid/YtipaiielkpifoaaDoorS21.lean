/- Contracts over the abstract states: paths; the statement on roots and paths. -/
import Derived.Test.YtipaiielkpifoaaDoorS17
import Derived.Test.YtipaiielkpifoaaDoorS20
set_option linter.unusedVariables false
set_option linter.unusedSimpArgs false
set_option maxRecDepth 100000
namespace Go.Proofs.YtipaiielkpifoaaDoor
open Go Go.Ab

section
variable (H : Hp) (k : Nat)
end

end Go.Proofs.YtipaiielkpifoaaDoor
