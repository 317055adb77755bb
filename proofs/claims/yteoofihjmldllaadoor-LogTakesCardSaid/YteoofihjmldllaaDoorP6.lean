/- Contracts over the abstract states: the example of predicates; the statement that one of several is the one or the other. -/
import Derived.Test.YteoofihjmldllaaDoorP5
set_option linter.unusedVariables false
set_option linter.unusedSimpArgs false
set_option maxRecDepth 100000
namespace Go.Proofs.YteoofihjmldllaaDoor
open Go Go.Ab

theorem PdV.intro {H : Hp} {op col : Int} {vals : List Val} {of : List Pd} {A : Option Addr} {c : Nat} {B : Option Addr} {d : Nat} {bs : List Value} (hA : slcCells H 3 (.slice A vals.length c) = some (vals3 vals)) (h1 : vals.length ≤ 9223372036854775807) (h2 : of.length ≤ 9223372036854775807) (h3 : -9223372036854775808 ≤ op ∧ op ≤ 9223372036854775807) (h4 : -9223372036854775808 ≤ col ∧ col ≤ 9223372036854775807) (h5 : ∀ v ∈ vals, v.ok) (hB : SLC H 4 B of.length d bs) (hP : PdVs H of bs) :
    PdV H (.mk op col vals of) (pv op col A vals.length c B of.length d) := by
  rw [PdV]
  exact ⟨A, c, B, d, bs, rfl, hA, h1, h2, h3, h4, h5, hB, hP⟩
theorem PdVs.nil {H : Hp} : PdVs H [] [] := by rw [PdVs]
/-! ### One of several -/
section
variable (H : Hp) (k : Nat)

end

end Go.Proofs.YteoofihjmldllaaDoor
