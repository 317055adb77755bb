/- Contracts over the abstract states: zones are sound; of more rows a zone only grows. -/
import Derived.Test.YtnciojaecelhmaaDoorZ9
import Derived.Test.YtnciojaecelhmaaDoorP6
set_option linter.unusedVariables false
set_option linter.unusedSimpArgs false
set_option maxRecDepth 100000
namespace Go.Proofs.YtnciojaecelhmaaDoor
open Go Go.Ab

theorem ACode.named {P : Program} {NG Nt : Nat} {Q : Exit → St → Prop} {c : Code} {fr : Fr} {H : Hp} {nk : Nat} (h : ∀ HX, HX = H → ACode P NG Nt c Q ⟨fr, HX, nk⟩) : ACode P NG Nt c Q ⟨fr, H, nk⟩ := h H rfl
section
variable (H : Hp) (k : Nat)

end

end Go.Proofs.YtnciojaecelhmaaDoor
