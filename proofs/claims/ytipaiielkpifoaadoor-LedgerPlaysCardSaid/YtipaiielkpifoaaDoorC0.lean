/- Two texts of one digest, in plain Lean: where leaves, paths, proofs or heads tell them. No condition. -/
import Derived.Test.YtipaiielkpifoaaDoorS32
import Derived.Test.YtipaiielkpifoaaDoorS24
set_option linter.unusedVariables false
set_option linter.unusedSimpArgs false
set_option maxRecDepth 100000
namespace Go.Proofs.YtipaiielkpifoaaDoor
open Go Go.Ab

def isC (x y : List UInt8) : Prop := x ≠ y ∧ shaD x = shaD y
instance (x y : List UInt8) : Decidable (isC x y) := inferInstanceAs (Decidable (_ ∧ _))
end Go.Proofs.YtipaiielkpifoaaDoor
