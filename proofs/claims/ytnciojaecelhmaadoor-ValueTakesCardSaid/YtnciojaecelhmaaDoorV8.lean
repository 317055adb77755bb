/- Forms of values, schemas and rows as bytes, in plain Lean. No condition. -/
import Derived.Test.YtnciojaecelhmaaDoorV4
import Derived.Test.YtnciojaecelhmaaDoorAb30
set_option linter.unusedVariables false
set_option linter.unusedSimpArgs false
namespace Go.Proofs.YtnciojaecelhmaaDoor
open Go Go.Ab

end Go.Proofs.YtnciojaecelhmaaDoor
