/- What readers' laws are given: bytes, columns, rows. No condition. -/
import Derived.Test.YteoofihjmldllaaDoorR8
set_option linter.unusedVariables false
set_option maxRecDepth 100000
namespace Go.Proofs.YteoofihjmldllaaDoor
open Go Go.Ab
theorem col_inv' {H : Hp} {cs : List Value} (h : AD Tryd.prog H (.one 121) cs) : ∃ a : Col, cs = (cc a).cells.toList ∧ a.ok := by
  obtain ⟨a, b, rfl, ha, _, hb⟩ := h.struct_inv.cons_inv
  obtain ⟨c, d, rfl, hc, _, hd⟩ := hb.cons_inv
  obtain ⟨e, f, rfl, he, _, hf⟩ := hd.cons_inv
  rw [hf.nil_inv]
  obtain ⟨kind, rfl, k1, k2⟩ := ha.int_inv
  obtain ⟨n, rfl⟩ := hc.bool_inv
  obtain ⟨s, rfl, s1, s2⟩ := he.int_inv
  exact ⟨⟨kind, n, s⟩, rfl, wf_i64 k1 k2, wf_i64 s1 s2⟩
theorem cols_inv' {H : Hp} : ∀ {l : Nat} {cs : List Value}, AD Tryd.prog H (.many (List.replicate l 121)) cs → ∃ cols : List Col, cols.length = l ∧ cs = cols3 cols ∧ ∀ a ∈ cols, a.ok
  | 0, cs, h => ⟨[], rfl, h.nil_inv, fun a ha => by cases ha⟩
  | l + 1, cs, h => by
    rw [List.replicate_succ] at h
    obtain ⟨a, b, rfl, ha, hl, hb⟩ := h.cons_inv
    obtain ⟨c, rfl, hc⟩ := col_inv' ha
    obtain ⟨cols, h1, rfl, h2⟩ := cols_inv' hb
    refine ⟨c :: cols, by simp [h1], rfl, fun x hx => ?_⟩
    rcases List.mem_cons.1 hx with rfl | hx
    · exact hc
    · exact h2 x hx
theorem cols_arg' {H : Hp} {u : Value} (h : AV Tryd.prog H 41 u) : ∃ (cols : List Col) (A : Option Addr) (c : Nat), u = .slice A cols.length c ∧ SLC H 3 A cols.length c (cols3 cols) ∧ cols.length ≤ 9223372036854775807 ∧ ∀ a ∈ cols, a.ok := by
  obtain ⟨A, l, c, cells, e, h1, h2, h3, h4⟩ := (h.plain plain_slc).SLC_inv
  injection e with e
  subst e
  obtain ⟨cols, rfl, rfl, h5⟩ := cols_inv' h4
  exact ⟨cols, A, c, rfl, h1, h3, h5⟩
theorem rows_inv' {H : Hp} : ∀ {l : Nat} {cs : List Value}, AD Tryd.prog H (.many (List.replicate l 29)) cs → ∃ rows : List (List Val), rows.length = l ∧ Rws H cs rows ∧ ∀ r ∈ rows, r.length ≤ 9223372036854775807 ∧ ∀ v ∈ r, v.ok
  | 0, cs, h => ⟨[], rfl, by rw [h.nil_inv]; exact ⟨rfl, fun i hi => by simp at hi⟩, fun x hx => by cases hx⟩
  | l + 1, cs, h => by
    rw [List.replicate_succ] at h
    obtain ⟨a, b, rfl, ha, hl, hb⟩ := h.cons_inv
    obtain ⟨r, A, c, rfl, h1, h2, h2'⟩ := row_inv ha
    obtain ⟨rows, h3, h4, h5⟩ := rows_inv' hb
    refine ⟨r :: rows, by simp [h3], ⟨by simp [h4.len], fun i hi => ?_⟩, fun x hx => ?_⟩
    · cases i with
      | zero => exact ⟨A, c, rfl, h1⟩
      | succ i => exact h4.at_ i (by simpa using hi)
    · rcases List.mem_cons.1 hx with rfl | hx
      · exact ⟨h2, h2'⟩
      · exact h5 x hx
end Go.Proofs.YteoofihjmldllaaDoor
