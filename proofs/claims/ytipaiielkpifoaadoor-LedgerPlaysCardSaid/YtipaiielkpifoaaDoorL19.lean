/- The statement that ledgers grow, over whatever abstract arguments. No condition. -/
import Derived.Test.YtipaiielkpifoaaDoorL18
import Derived.Test.YtipaiielkpifoaaDoorS10
set_option linter.unusedVariables false
set_option maxRecDepth 100000
namespace Go.Proofs.YtipaiielkpifoaaDoor
open Go Go.Ab
section
variable {H : Hp} {u : Value}
theorem entry_inv {cs : List Value} (h : AD Tryd.prog H (.one 38) cs) : ∃ e : Ent, cs = entc e ∧ e.ok := by
  have h := h.struct_inv
  obtain ⟨a, r, rfl, ha, _, h⟩ := h.cons_inv
  obtain ⟨b, r, rfl, hb, _, h⟩ := h.cons_inv
  obtain ⟨c, r, rfl, hc, _, h⟩ := h.cons_inv
  cases h.nil_inv
  obtain ⟨s, rfl⟩ := hash_inv ha
  obtain ⟨g, rfl, g1, g2⟩ := hb.int_inv
  obtain ⟨t, rfl⟩ := hash_inv hc
  exact ⟨⟨s, g, t⟩, by simp [entc], g1, g2⟩
theorem entries_inv : ∀ {l : Nat} {cs : List Value}, AD Tryd.prog H (.many (List.replicate l 38)) cs → ∃ es : List Ent, es.length = l ∧ cs = ecs es ∧ ∀ e ∈ es, e.ok
  | 0, cs, h => ⟨[], rfl, h.nil_inv, fun e he => by cases he⟩
  | l + 1, cs, h => by
    rw [List.replicate_succ] at h
    obtain ⟨a, b, rfl, ha, _, hb⟩ := h.cons_inv
    obtain ⟨e, rfl, he⟩ := entry_inv ha
    obtain ⟨es, rfl, rfl, hs⟩ := entries_inv hb
    refine ⟨e :: es, rfl, by simp [ecs], fun x hx => ?_⟩
    rcases List.mem_cons.1 hx with rfl | h
    · exact he
    · exact hs x h
theorem entries_arg (h : AV Tryd.prog H 34 u) : ∃ (es : List Ent) (A : Option Addr) (c : Nat), u = .slice A es.length c ∧ SLC H 65 A es.length c (ecs es) ∧ es.length ≤ 9223372036854775807 ∧ ∀ e ∈ es, e.ok := by
  obtain ⟨A, l, c, cells, e, h1, h2, h3, h4⟩ := (h.plain plain_slc).SLC_inv
  injection e with e
  subst e
  obtain ⟨es, rfl, rfl, ho⟩ := entries_inv h4
  exact ⟨es, A, c, rfl, h1, h3, ho⟩
end
end Go.Proofs.YtipaiielkpifoaaDoor
