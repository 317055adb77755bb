/- What the arguments of the statements on values, predicates and zones are. No condition. -/
import Derived.Test.YtnciojaecelhmaaDoorP3
set_option linter.unusedVariables false
set_option maxRecDepth 100000
namespace Go.Proofs.YtnciojaecelhmaaDoor
open Go Go.Ab
theorem val_inv {H : Hp} {cs : List Value} (h : AD Tryd.prog H (.one 43) cs) : ∃ a : Val, a.ok ∧ cs = (vv a).cells.toList := by
  obtain ⟨a, b, rfl, ha, _, hb⟩ := h.struct_inv.cons_inv
  obtain ⟨c, d, rfl, hc, _, hd⟩ := hb.cons_inv
  obtain ⟨e, f, rfl, he, _, hf⟩ := hd.cons_inv
  rw [hf.nil_inv]
  obtain ⟨kind, rfl, k1, k2⟩ := ha.int_inv
  obtain ⟨n, rfl, n1, n2⟩ := hc.int_inv
  obtain ⟨s, rfl, hs⟩ := he.str_invR
  exact ⟨⟨kind, n, s⟩, ⟨litwf k1 k2, litwf n1 n2, hs⟩, rfl⟩
theorem vals_inv {H : Hp} : ∀ {l : Nat} {cs : List Value}, AD Tryd.prog H (.many (List.replicate l 43)) cs → ∃ vals : List Val, vals.length = l ∧ cs = vals3 vals ∧ ∀ v ∈ vals, v.ok
  | 0, cs, h => ⟨[], rfl, h.nil_inv, fun v hv => by cases hv⟩
  | l + 1, cs, h => by
    rw [List.replicate_succ] at h
    obtain ⟨a, b, rfl, ha, hl, hb⟩ := h.cons_inv
    obtain ⟨c, hc, rfl⟩ := val_inv ha
    obtain ⟨vals, h1, rfl, h3⟩ := vals_inv hb
    exact ⟨c :: vals, by simp [h1], rfl, fun v hv => by
      rcases List.mem_cons.1 hv with rfl | hv
      · exact hc
      · exact h3 v hv⟩
theorem row_inv {H : Hp} {cs : List Value} (h : AD Tryd.prog H (.one 23) cs) : ∃ (vals : List Val) (A : Option Addr) (c : Nat), cs = [.slice A vals.length c] ∧ SLC H 3 A vals.length c (vals3 vals) ∧ vals.length ≤ 9223372036854775807 ∧ ∀ v ∈ vals, v.ok := by
  obtain ⟨A, l, c, cells, rfl, h1, h2, h3, h4⟩ := h.SLC_inv
  obtain ⟨vals, rfl, rfl, h5⟩ := vals_inv h4
  exact ⟨vals, A, c, rfl, h1, h3, h5⟩
theorem plain_slc {e : TypeId} : (∀ fs, TypeDesc.slice e ≠ .struct fs) ∧ ∀ n e', TypeDesc.slice e ≠ .array n e' := ⟨fun _ h => (TypeDesc.noConfusion h), fun _ _ h => (TypeDesc.noConfusion h)⟩
end Go.Proofs.YtnciojaecelhmaaDoor
