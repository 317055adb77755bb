/- ValueChecks over whatever abstract arguments: it answers true. -/
import Derived.Test.YtnciojaecelhmaaV2
import Derived.Test.YtnciojaecelhmaaV5
set_option linter.unusedVariables false
set_option maxRecDepth 100000
namespace Go.Proofs.Ytnciojaecelhmaa
open Go Go.Ab

theorem col_inv {H : Hp} {cs : List Value} (h : AD Try.prog H (.one 51) cs) : ∃ a : Col, cs = (cc a).cells.toList := by
  obtain ⟨a, b, rfl, ha, _, hb⟩ := h.struct_inv.cons_inv
  obtain ⟨c, d, rfl, hc, _, hd⟩ := hb.cons_inv
  obtain ⟨e, f, rfl, he, _, hf⟩ := hd.cons_inv
  rw [hf.nil_inv]
  obtain ⟨kind, rfl, k1, k2⟩ := ha.int_inv
  obtain ⟨n, rfl⟩ := hc.bool_inv
  obtain ⟨s, rfl, s1, s2⟩ := he.int_inv
  exact ⟨⟨kind, n, s⟩, rfl⟩
theorem cols_inv {H : Hp} : ∀ {l : Nat} {cs : List Value}, AD Try.prog H (.many (List.replicate l 51)) cs → ∃ cols : List Col, cols.length = l ∧ cs = cols3 cols
  | 0, cs, h => ⟨[], rfl, h.nil_inv⟩
  | l + 1, cs, h => by
    rw [List.replicate_succ] at h
    obtain ⟨a, b, rfl, ha, hl, hb⟩ := h.cons_inv
    obtain ⟨c, rfl⟩ := col_inv ha
    obtain ⟨cols, h1, rfl⟩ := cols_inv hb
    exact ⟨c :: cols, by simp [h1], rfl⟩
theorem vals_inv {H : Hp} : ∀ {l : Nat} {cs : List Value}, AD Try.prog H (.many (List.replicate l 23)) cs → ∃ vals : List Val, vals.length = l ∧ cs = vals3 vals ∧ ∀ v ∈ vals, v.ok
  | 0, cs, h => ⟨[], rfl, h.nil_inv, fun v hv => by cases hv⟩
  | l + 1, cs, h => by
    rw [List.replicate_succ] at h
    obtain ⟨a, b, rfl, ha, hl, hb⟩ := h.cons_inv
    obtain ⟨c, hc, rfl⟩ := val_inv ha
    obtain ⟨vals, h1, rfl, h3⟩ := vals_inv hb
    exact ⟨c :: vals, by simp [h1], rfl, fun v hv => by
      rcases List.mem_cons.1 hv with rfl | hv
      · exact hc
      · exact h3 v hv⟩
theorem plain_slc {e : TypeId} : (∀ fs, TypeDesc.slice e ≠ .struct fs) ∧ ∀ n e', TypeDesc.slice e ≠ .array n e' := ⟨fun _ h => (TypeDesc.noConfusion h), fun _ _ h => (TypeDesc.noConfusion h)⟩
theorem cols_arg {H : Hp} {u : Value} (h : AV Try.prog H 28 u) : ∃ (cols : List Col) (A : Option Addr) (c : Nat), u = .slice A cols.length c ∧ slcCells H 3 (.slice A cols.length c) = some (cols3 cols) ∧ cols.length ≤ 9223372036854775807 := by
  obtain ⟨v, l, cells, e, ⟨A, c, rfl⟩, h1, h2, h3, h4⟩ := (h.plain plain_slc).slc_inv
  injection e with e
  subst e
  obtain ⟨cols, rfl, rfl⟩ := cols_inv h4
  exact ⟨cols, A, c, rfl, h1, h3⟩
theorem vals_arg {H : Hp} {u : Value} (h : AV Try.prog H 29 u) : ∃ (vals : List Val) (A : Option Addr) (c : Nat), u = .slice A vals.length c ∧ slcCells H 3 (.slice A vals.length c) = some (vals3 vals) ∧ vals.length ≤ 9223372036854775807 ∧ ∀ v ∈ vals, v.ok := by
  obtain ⟨v, l, cells, e, ⟨A, c, rfl⟩, h1, h2, h3, h4⟩ := (h.plain plain_slc).slc_inv
  injection e with e
  subst e
  obtain ⟨vals, rfl, rfl, h5⟩ := vals_inv h4
  exact ⟨vals, A, c, rfl, h1, h3, h5⟩
theorem valueChecks_any (H : Hp) (k : Nat) (us : List Value) (h : AVs Try.prog H Try.f4.params.toList us) : ACalls Try.prog 0 4 us H k fun v _ _ => v = .bool true := by
  rw [Try.params4] at h
  obtain ⟨u1, r1, rfl, h1, h⟩ := AVs.cons_inv h
  obtain ⟨u2, r2, rfl, h2, h⟩ := AVs.cons_inv h
  obtain ⟨u3, r3, rfl, h3, h⟩ := AVs.cons_inv h
  obtain ⟨u4, r4, rfl, h4, h⟩ := AVs.cons_inv h
  cases AVs.nil_inv h
  obtain ⟨a, ha, rfl⟩ := val_arg h1
  obtain ⟨b, hb, rfl⟩ := val_arg h2
  obtain ⟨cols, A, c, rfl, g1, g2⟩ := cols_arg h3
  obtain ⟨vals, B, d, rfl, g3, g4, g5⟩ := vals_arg h4
  exact (valueChecks 0 H k a b cols vals A c g1 B d g3 g4 g2 g5).mono fun v H' k' h => h.1
end Go.Proofs.Ytnciojaecelhmaa
