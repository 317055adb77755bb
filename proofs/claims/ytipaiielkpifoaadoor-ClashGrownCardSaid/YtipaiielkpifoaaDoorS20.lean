/- Lists of digests that grow: a literal of one digest, a digest put behind; the answer of the functions that find a path. No condition. -/
import Derived.Test.YtipaiielkpifoaaDoorS16
set_option linter.unusedVariables false
set_option maxRecDepth 100000
namespace Go.Proofs.YtipaiielkpifoaaDoor
open Go Go.Ab
end Go.Proofs.YtipaiielkpifoaaDoor
