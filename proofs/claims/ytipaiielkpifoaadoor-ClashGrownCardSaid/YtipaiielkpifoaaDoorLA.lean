/- What arguments that are lists of digests are. No condition. -/
import Derived.Test.YtipaiielkpifoaaDoorS10
import Derived.Test.YtipaiielkpifoaaDoorS16
set_option linter.unusedVariables false
set_option maxRecDepth 100000
namespace Go.Proofs.YtipaiielkpifoaaDoor
open Go Go.Ab
theorem hashes_inv {H : Hp} : ∀ {l : Nat} {cs : List Value}, AD Tryd.prog H (.many (List.replicate l 31)) cs → ∃ p : List Dg, p.length = l ∧ cs = hcs p
  | 0, cs, h => ⟨[], rfl, h.nil_inv⟩
  | l + 1, cs, h => by
    rw [List.replicate_succ] at h
    obtain ⟨a, b, rfl, ha, _, hb⟩ := h.cons_inv
    obtain ⟨d, rfl⟩ := hash_inv ha
    obtain ⟨p, rfl, rfl⟩ := hashes_inv hb
    exact ⟨d :: p, rfl, rfl⟩
theorem hashes_arg {H : Hp} {u : Value} (h : AV Tryd.prog H 43 u) : ∃ (p : List Dg) (A : Option Addr) (c : Nat), u = .slice A p.length c ∧ SLC H 32 A p.length c (hcs p) ∧ p.length ≤ 9223372036854775807 := by
  obtain ⟨A, l, c, cells, e, h1, h2, h3, h4⟩ := (h.plain plain_slc).SLC_inv
  injection e with e
  subst e
  obtain ⟨p, rfl, rfl⟩ := hashes_inv h4
  exact ⟨p, A, c, rfl, h1, h3⟩
end Go.Proofs.YtipaiielkpifoaaDoor
