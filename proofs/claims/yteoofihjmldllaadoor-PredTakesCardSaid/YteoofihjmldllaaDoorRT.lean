/- What readers' laws are given: bytes, columns, rows. No condition. -/
import Derived.Test.YteoofihjmldllaaDoorR8
set_option linter.unusedVariables false
set_option maxRecDepth 100000
namespace Go.Proofs.YteoofihjmldllaaDoor
open Go Go.Ab
theorem bytes_arg' {H : Hp} {u : Value} (h : AV Tryd.prog H 22 u) : ∃ (bs : List UInt8) (A : Option Addr) (c : Nat), u = .slice A bs.length c ∧ SLC H 1 A bs.length c (bs.map bv) ∧ bs.length ≤ 9223372036854775807 := by
  obtain ⟨A, l, c, cells, e, h1, h2, h3, h4⟩ := (h.plain plain_slc).SLC_inv
  injection e with e
  subst e
  obtain ⟨bs, rfl, rfl⟩ := AD.bytes_inv h4
  exact ⟨bs, A, c, rfl, h1, h3⟩
end Go.Proofs.YteoofihjmldllaaDoor
