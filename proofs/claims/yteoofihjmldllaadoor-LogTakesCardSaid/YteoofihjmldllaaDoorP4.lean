/- Contracts over the abstract states: the truth of a row; what is wrong with a predicate. -/
import Derived.Test.YteoofihjmldllaaDoorP3
set_option linter.unusedVariables false
set_option linter.unusedSimpArgs false
set_option maxRecDepth 100000
namespace Go.Proofs.YteoofihjmldllaaDoor
open Go Go.Ab

theorem pd_getD {ps : List Pd} {i : Nat} (h : i < ps.length) : ps.getD i pD ∈ ps := by
  rw [List.getD_eq_getElem?_getD, List.getElem?_eq_getElem h]
  exact List.getElem_mem _
theorem PdV.form {H : Hp} {p : Pd} {v : Value} (h : PdV H p v) : ∃ op col A l c B m d, v = pv op col A l c B m d := by
  cases p with
  | mk op col vals of =>
    rw [PdV] at h
    obtain ⟨A, c, B, d, bs, rfl, _⟩ := h
    exact ⟨_, _, _, _, _, _, _, _, rfl⟩
section
variable (H : Hp) (k : Nat)

end

end Go.Proofs.YteoofihjmldllaaDoor
