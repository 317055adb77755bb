/- Forms of values, schemas and rows as bytes, in plain Lean. No condition. -/
import Derived.Test.YteoofihjmldllaaDoorV4
import Derived.Test.YteoofihjmldllaaDoorAb30
set_option linter.unusedVariables false
set_option linter.unusedSimpArgs false
namespace Go.Proofs.YteoofihjmldllaaDoor
open Go Go.Ab

end Go.Proofs.YteoofihjmldllaaDoor
