/- Contracts over the abstract states: the document's state behind a block, its digest of bytes, of a tag and parts. -/
import Derived.Test.YtipaiielkpifoaaDoorS5
set_option linter.unusedVariables false
set_option linter.unusedSimpArgs false
set_option maxRecDepth 100000
namespace Go.Proofs.YtipaiielkpifoaaDoor
open Go Go.Ab

section
variable (H : Hp) (k : Nat)
end

end Go.Proofs.YtipaiielkpifoaaDoor
