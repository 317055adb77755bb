/- Contracts over the abstract states: which truths may be, by the document. -/
import Derived.Test.YtnciojaecelhmaaDoorZ2
set_option linter.unusedVariables false
set_option linter.unusedSimpArgs false
set_option maxRecDepth 100000
namespace Go.Proofs.YtnciojaecelhmaaDoor
open Go Go.Ab


end Go.Proofs.YtnciojaecelhmaaDoor
