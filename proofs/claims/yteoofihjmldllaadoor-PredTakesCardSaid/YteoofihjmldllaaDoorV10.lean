/- Contracts over the abstract states: the same bytes; great rows; schemas as bytes; bytes put behind. -/
import Derived.Test.YteoofihjmldllaaDoorV9
set_option linter.unusedVariables false
set_option linter.unusedSimpArgs false
set_option maxRecDepth 100000
namespace Go.Proofs.YteoofihjmldllaaDoor
open Go Go.Ab

section
variable (NG : Nat) (H : Hp) (k : Nat)
abbrev V0_ : Val := ⟨0, 0, ⟨#[]⟩⟩
theorem getD_el {α : Type} {l : List α} {d : α} {i : Nat} (h : i < l.length) : l.getD i d = l[i] := by
  rw [List.getD_eq_getElem?_getD, List.getElem?_eq_getElem h]; rfl
theorem slcElG {α : Type} {z i : Nat} {H : Hp} {v : Value} (f : α → List Value) {l : List α} (d : α) (h : slcCells H z v = some (l.flatMap f)) (hz : ∀ a, (f a).length = z) (h0 : 0 < z) (hi : i < l.length) :
    ∃ n off sp, aslcAt H z i v = some (ptr n off sp) ∧ PAt H n off sp (f (l.getD i d)) := by
  rw [getD_el hi]
  exact slcEl h hz h0 hi
/-- The values are slices that show these rows. -/
structure Rws (H : Hp) (vs : List Value) (rows : List (List Val)) : Prop where
  len : vs.length = rows.length
  at_ : ∀ i, i < rows.length → ∃ A c, vs.getD i undef = .slice A (rows.getD i []).length c ∧ SLC H 3 A (rows.getD i []).length c (vals3 (rows.getD i []))
end

end Go.Proofs.YteoofihjmldllaaDoor
