/- Contracts over the abstract states: zones: which truths may be of a predicate that names a column; what comes of two. -/
import Derived.Test.YteoofihjmldllaaDoorZ0
import Derived.Test.YteoofihjmldllaaDoorZF
import Derived.Test.YteoofihjmldllaaDoorZS
set_option linter.unusedVariables false
set_option linter.unusedSimpArgs false
set_option maxRecDepth 100000
namespace Go.Proofs.YteoofihjmldllaaDoor
open Go Go.Ab

section
variable (H : Hp) (k : Nat)


end

end Go.Proofs.YteoofihjmldllaaDoor

/- Contracts over the abstract states: how great a predicate is; the document's form of predicates, and which truths may be. -/
set_option linter.unusedVariables false
set_option linter.unusedSimpArgs false
set_option maxRecDepth 100000
namespace Go.Proofs.YteoofihjmldllaaDoor
open Go Go.Ab

section
variable (H : Hp) (k : Nat)

end

end Go.Proofs.YteoofihjmldllaaDoor
