/- Contracts over the abstract states: rows as bytes. -/
import Derived.Test.YteoofihjmldllaaDoorV10
set_option linter.unusedVariables false
set_option linter.unusedSimpArgs false
set_option maxRecDepth 100000
namespace Go.Proofs.YteoofihjmldllaaDoor
open Go Go.Ab

section
variable (NG : Nat) (H : Hp) (k : Nat)
theorem getD_mem {α : Type} {l : List α} {d : α} {i : Nat} (h : i < l.length) : l.getD i d ∈ l := by
  rw [getD_el h]; exact List.getElem_mem _
structure Small (rows : List (List Val)) : Prop where
  n : rows.length ≤ 50
  w : ∀ r ∈ rows, r.length ≤ 50
  v : ∀ r ∈ rows, ∀ v ∈ r, v.ok ∧ v.s.size ≤ 100
end

end Go.Proofs.YteoofihjmldllaaDoor
