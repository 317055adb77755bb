/- Contracts over the abstract states: numbers, values, schemas and rows as bytes; ValuePuts. -/
import Derived.Test.YteoofihjmldllaaDoorV5
import Derived.Test.YteoofihjmldllaaDoorV8
import Derived.Test.YteoofihjmldllaaDoorAb30
set_option linter.unusedVariables false
set_option linter.unusedSimpArgs false
set_option maxRecDepth 100000
namespace Go.Proofs.YteoofihjmldllaaDoor
open Go Go.Ab

section
variable (NG : Nat) (H : Hp) (k : Nat)
abbrev u64 (n : Nat) : Value := .int .u64 (n : Int)
abbrev sl (n l : Nat) : Value := gsl n l

end

end Go.Proofs.YteoofihjmldllaaDoor
