/- Contracts over the abstract states: the same values, schemas and rows; both readers' ends; ValueTakes. -/
import Derived.Test.YteoofihjmldllaaDoorR7
set_option linter.unusedVariables false
set_option linter.unusedSimpArgs false
set_option maxRecDepth 100000
namespace Go.Proofs.YteoofihjmldllaaDoor
open Go Go.Ab

theorem runR_it {α : Type} (f : α × Rd → α × Rd) : ∀ (n : Nat) (s : α × Rd), ∃ i, runR f n s = itR f s i
  | 0, s => ⟨0, rfl⟩
  | n + 1, s => by
    rw [runR]
    split
    · exact ⟨0, rfl⟩
    · obtain ⟨i, h⟩ := runR_it f n (f s)
      refine ⟨i + 1, h.trans ?_⟩
      clear h
      induction i with
      | zero => rfl
      | succ i ih => exact congrArg f ih
section
variable (H : Hp) (k : Nat)

end

end Go.Proofs.YteoofihjmldllaaDoor
