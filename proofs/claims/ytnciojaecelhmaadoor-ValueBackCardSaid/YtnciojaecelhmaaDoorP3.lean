/- Contracts over the abstract states: predicates: what operators have, comparisons, the truth of a row. -/
import Derived.Test.YtnciojaecelhmaaDoorP2
import Derived.Test.YtnciojaecelhmaaDoorF2
set_option linter.unusedVariables false
set_option linter.unusedSimpArgs false
set_option maxRecDepth 100000
namespace Go.Proofs.YtnciojaecelhmaaDoor
open Go Go.Ab

section
variable (H : Hp) (k : Nat)
end

end Go.Proofs.YtnciojaecelhmaaDoor
