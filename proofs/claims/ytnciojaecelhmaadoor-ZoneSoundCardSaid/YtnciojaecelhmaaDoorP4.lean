/- Contracts over the abstract states: the truth of a row; what is wrong with a predicate. -/
import Derived.Test.YtnciojaecelhmaaDoorP3
set_option linter.unusedVariables false
set_option linter.unusedSimpArgs false
set_option maxRecDepth 100000
namespace Go.Proofs.YtnciojaecelhmaaDoor
open Go Go.Ab

theorem pd_getD {ps : List Pd} {i : Nat} (h : i < ps.length) : ps.getD i pD ∈ ps := by
  rw [List.getD_eq_getElem?_getD, List.getElem?_eq_getElem h]
  exact List.getElem_mem _
theorem PdVs.tail {H : Hp} {of : List Pd} {bs : List Value} {B : Option Addr} {d : Nat} (hS : SLC H 4 B of.length d bs) (h : PdVs H of bs) (h1 : 1 ≤ of.length) :
    ∃ A c, aslice H 4 1 of.length none (.slice B of.length d) = some (.slice A (of.drop 1).length c) ∧ SLC H 4 A (of.drop 1).length c (bs.drop 4) ∧ PdVs H (of.drop 1) (bs.drop 4) := by
  have hl := h.len
  obtain ⟨A, c, h2, h3⟩ := SLC.cut hS 1 of.length none h1 (Nat.le_refl _) (by intro x hx; cases hx)
  match of, h1, h with
  | p :: ps, _, h =>
    rw [PdVs] at h
    obtain ⟨v, r, rfl, h4, h5⟩ := h
    have e : (v.cells.toList ++ r).drop 4 = r := List.drop_left' h4.agg.2
    rw [show 1 * 4 = 4 from rfl, e, List.take_of_length_le (by rw [h5.len]; simp)] at h3
    rw [e]
    exact ⟨A, c, by simpa using h2, by simpa using h3, h5⟩
theorem PdV.form {H : Hp} {p : Pd} {v : Value} (h : PdV H p v) : ∃ op col A l c B m d, v = pv op col A l c B m d := by
  cases p with
  | mk op col vals of =>
    rw [PdV] at h
    obtain ⟨A, c, B, d, bs, rfl, _⟩ := h
    exact ⟨_, _, _, _, _, _, _, _, rfl⟩
section
variable (H : Hp) (k : Nat)

end

end Go.Proofs.YtnciojaecelhmaaDoor
