/- Contracts over the abstract states: zones: which truths may be of a predicate that names a column; what comes of two. -/
import Derived.Test.YteoofihjmldllaaDoorZ0
import Derived.Test.YteoofihjmldllaaDoorZF
set_option linter.unusedVariables false
set_option linter.unusedSimpArgs false
set_option maxRecDepth 100000
namespace Go.Proofs.YteoofihjmldllaaDoor
open Go Go.Ab

section
variable (H : Hp) (k : Nat)


end

end Go.Proofs.YteoofihjmldllaaDoor
