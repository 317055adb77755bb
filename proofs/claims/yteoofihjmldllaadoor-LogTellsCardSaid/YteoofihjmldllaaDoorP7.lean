/- What is put reads back, in plain Lean: short numbers, values, rows, schemas. No condition. -/
import Derived.Test.YteoofihjmldllaaDoorR8
import Derived.Test.YteoofihjmldllaaDoorPA
set_option linter.unusedVariables false
set_option linter.unusedSimpArgs false
set_option maxRecDepth 100000
namespace Go.Proofs.YteoofihjmldllaaDoor
open Go Go.Ab
/-! ### A reader that has something ahead -/
structure Rd.has (r : Rd) (x : List UInt8) : Prop where
  e0 : r.e = 0
  le : r.at_ ≤ r.bs.length
  eq : r.rest = x
/-! ### Values -/
def Tidy (a : Val) : Prop := ((a.kind = 0 ∧ a.n = 0 ∧ a.s = ⟨#[]⟩) ∨ (a.kind = 1 ∧ a.s = ⟨#[]⟩) ∨ (a.kind = 2 ∧ a.n = 0)) ∧ a.s.size ≤ 65536 ∧ a.ok
/-! ### Schemas -/
/-! ### Rows that stand are tidy -/
end Go.Proofs.YteoofihjmldllaaDoor

/- Contracts over the abstract states: the truth of a row; what is wrong with a predicate. -/
set_option linter.unusedVariables false
set_option linter.unusedSimpArgs false
set_option maxRecDepth 100000
namespace Go.Proofs.YteoofihjmldllaaDoor
open Go Go.Ab

theorem pd_getD {ps : List Pd} {i : Nat} (h : i < ps.length) : ps.getD i pD ∈ ps := by
  rw [List.getD_eq_getElem?_getD, List.getElem?_eq_getElem h]
  exact List.getElem_mem _
theorem PdV.form {H : Hp} {p : Pd} {v : Value} (h : PdV H p v) : ∃ op col A l c B m d, v = pv op col A l c B m d := by
  cases p with
  | mk op col vals of =>
    rw [PdV] at h
    obtain ⟨A, c, B, d, bs, rfl, _⟩ := h
    exact ⟨_, _, _, _, _, _, _, _, rfl⟩
section
variable (H : Hp) (k : Nat)

end

end Go.Proofs.YteoofihjmldllaaDoor

/- Contracts over the abstract states: what is wrong with a predicate. -/
set_option linter.unusedVariables false
set_option linter.unusedSimpArgs false
set_option maxRecDepth 100000
namespace Go.Proofs.YteoofihjmldllaaDoor
open Go Go.Ab

section
variable (H : Hp) (k : Nat)

end

end Go.Proofs.YteoofihjmldllaaDoor

/- Contracts over the abstract states: the example of predicates; the statement that one of several is the one or the other. -/
set_option linter.unusedVariables false
set_option linter.unusedSimpArgs false
set_option maxRecDepth 100000
namespace Go.Proofs.YteoofihjmldllaaDoor
open Go Go.Ab

theorem PdV.intro {H : Hp} {op col : Int} {vals : List Val} {of : List Pd} {A : Option Addr} {c : Nat} {B : Option Addr} {d : Nat} {bs : List Value} (hA : slcCells H 3 (.slice A vals.length c) = some (vals3 vals)) (h1 : vals.length ≤ 9223372036854775807) (h2 : of.length ≤ 9223372036854775807) (h3 : -9223372036854775808 ≤ op ∧ op ≤ 9223372036854775807) (h4 : -9223372036854775808 ≤ col ∧ col ≤ 9223372036854775807) (h5 : ∀ v ∈ vals, v.ok) (hB : SLC H 4 B of.length d bs) (hP : PdVs H of bs) :
    PdV H (.mk op col vals of) (pv op col A vals.length c B of.length d) := by
  rw [PdV]
  exact ⟨A, c, B, d, bs, rfl, hA, h1, h2, h3, h4, h5, hB, hP⟩
theorem PdVs.nil {H : Hp} : PdVs H [] [] := by rw [PdVs]
/-! ### One of several -/
section
variable (H : Hp) (k : Nat)

end

end Go.Proofs.YteoofihjmldllaaDoor

/- Contracts over the abstract states: the statement that one of several is the one or the other. -/
set_option linter.unusedVariables false
set_option linter.unusedSimpArgs false
set_option maxRecDepth 100000
namespace Go.Proofs.YteoofihjmldllaaDoor
open Go Go.Ab

section
variable (H : Hp) (k : Nat)


end

end Go.Proofs.YteoofihjmldllaaDoor
