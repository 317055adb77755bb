/- Contracts over the abstract states: whether a proof is one. -/
import Derived.Test.YtipaiielkpifoaaDoorS27
set_option linter.unusedVariables false
set_option linter.unusedSimpArgs false
set_option maxRecDepth 100000
namespace Go.Proofs.YtipaiielkpifoaaDoor
open Go Go.Ab

section
variable {m n : Int} {a b : Dg} {p : List Dg}
end
section
variable (H : Hp) (k : Nat)

end

end Go.Proofs.YtipaiielkpifoaaDoor
