/- Contracts over the abstract states: the example, how great leaves are, sameness; the statement on a tree's parts. -/
import Derived.Test.YtipaiielkpifoaaDoorS14
set_option linter.unusedVariables false
set_option linter.unusedSimpArgs false
set_option maxRecDepth 100000
namespace Go.Proofs.YtipaiielkpifoaaDoor
open Go Go.Ab

section
variable (H : Hp) (k : Nat)

end

end Go.Proofs.YtipaiielkpifoaaDoor
