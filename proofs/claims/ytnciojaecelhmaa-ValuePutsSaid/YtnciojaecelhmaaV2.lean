/- ValueOrder over whatever abstract arguments: it answers true. -/
import Derived.Test.YtnciojaecelhmaaV1
set_option linter.unusedVariables false
set_option maxRecDepth 100000
namespace Go.Proofs.Ytnciojaecelhmaa
open Go Go.Ab

theorem val_inv {H : Hp} {cs : List Value} (h : AD Try.prog H (.one 23) cs) : ∃ a : Val, a.ok ∧ cs = (vv a).cells.toList := by
  obtain ⟨a, b, rfl, ha, _, hb⟩ := h.struct_inv.cons_inv
  obtain ⟨c, d, rfl, hc, _, hd⟩ := hb.cons_inv
  obtain ⟨e, f, rfl, he, _, hf⟩ := hd.cons_inv
  rw [hf.nil_inv]
  obtain ⟨kind, rfl, k1, k2⟩ := ha.int_inv
  obtain ⟨n, rfl, n1, n2⟩ := hc.int_inv
  obtain ⟨s, rfl, hs⟩ := he.str_inv
  exact ⟨⟨kind, n, s⟩, ⟨litwf k1 k2, litwf n1 n2, hs⟩, rfl⟩
theorem val_arg {H : Hp} {u : Value} (h : AV Try.prog H 23 u) : ∃ a : Val, a.ok ∧ u = vv a := by
  obtain ⟨cs, rfl, h'⟩ := h.struct
  obtain ⟨a, ha, e⟩ := val_inv h'
  exact ⟨a, ha, by rw [show cs = (vv a).cells from Array.toList_inj.1 e]; rfl⟩
theorem valueOrder_any (H : Hp) (k : Nat) (us : List Value) (h : AVs Try.prog H Try.f3.params.toList us) : ACalls Try.prog 0 3 us H k fun v _ _ => v = .bool true := by
  rw [Try.params3] at h
  obtain ⟨u1, r1, rfl, h1, h⟩ := AVs.cons_inv h
  obtain ⟨u2, r2, rfl, h2, h⟩ := AVs.cons_inv h
  obtain ⟨u3, r3, rfl, h3, h⟩ := AVs.cons_inv h
  cases AVs.nil_inv h
  obtain ⟨a, ha, rfl⟩ := val_arg h1
  obtain ⟨b, hb, rfl⟩ := val_arg h2
  obtain ⟨c, hc, rfl⟩ := val_arg h3
  exact (valueOrder 0 H k a b c ha hb hc).mono fun v H' k' h => h.1
end Go.Proofs.Ytnciojaecelhmaa
