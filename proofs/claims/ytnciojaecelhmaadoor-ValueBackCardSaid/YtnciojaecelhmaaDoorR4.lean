/- Contracts over the abstract states: the reference's reader: bytes, blobs, short numbers. -/
import Derived.Test.YtnciojaecelhmaaDoorR3
set_option linter.unusedVariables false
set_option linter.unusedSimpArgs false
set_option maxRecDepth 100000
namespace Go.Proofs.YtnciojaecelhmaaDoor
open Go Go.Ab

section
variable (H : Hp) (k : Nat)

end

end Go.Proofs.YtnciojaecelhmaaDoor
