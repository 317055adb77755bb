/- What a list of digests is among the arguments; the statements on a tree's parts and on folds over whatever abstract arguments. No condition. -/
import Derived.Test.YtlbcgadmcjobiaaDoorS18
import Derived.Test.YtlbcgadmcjobiaaDoorS10
set_option linter.unusedVariables false
set_option maxRecDepth 100000
namespace Go.Proofs.YtlbcgadmcjobiaaDoor
open Go Go.Ab
theorem hashes_inv {H : Hp} : ∀ {l : Nat} {cs : List Value}, AD Tryd.prog H (.many (List.replicate l 24)) cs → ∃ p : List Dg, p.length = l ∧ cs = hcs p
  | 0, cs, h => ⟨[], rfl, by rw [h.nil_inv]; rfl⟩
  | l + 1, cs, h => by
    rw [List.replicate_succ] at h
    obtain ⟨a, b, rfl, ha, hl, hb⟩ := h.cons_inv
    obtain ⟨d, rfl⟩ := hash_inv ha
    obtain ⟨p, rfl, rfl⟩ := hashes_inv hb
    exact ⟨d :: p, rfl, rfl⟩
theorem hashes_arg {H : Hp} {u : Value} (h : AV Tryd.prog H 43 u) : ∃ (p : List Dg) (A : Option Addr) (c : Nat), u = .slice A p.length c ∧ SLC H 32 A p.length c (hcs p) ∧ p.length ≤ maxLen := by
  obtain ⟨A, l, c, cells, e, h1, h2, h3, h4⟩ := (h.plain plain_slc).SLC_inv
  injection e with e
  subst e
  obtain ⟨p, rfl, rfl⟩ := hashes_inv h4
  exact ⟨p, A, c, rfl, h1, h3⟩
theorem treeParts_any (H : Hp) (k : Nat) (us : List Value) (ht : H 0 = some tabBlk) (h : AVs Tryd.prog H Tryd.f7.params.toList us) : ACalls Tryd.prog 1 7 us H k fun v _ _ => v = .bool true := by
  rw [Tryd.params7] at h
  obtain ⟨u1, r1, rfl, h1, h⟩ := AVs.cons_inv h
  obtain ⟨u2, r2, rfl, h2, h⟩ := AVs.cons_inv h
  cases AVs.nil_inv h
  obtain ⟨ls, vs, A, c, rfl, g1, g2, g3, _⟩ := leaves_arg h1
  obtain ⟨p, rfl⟩ := byte_arg h2
  exact (treeParts H k ht ls vs A c g1 g2 g3 p).mono fun v H' k' h => h.1
theorem treeFolds_any (H : Hp) (k : Nat) (us : List Value) (ht : H 0 = some tabBlk) (h : AVs Tryd.prog H Tryd.f8.params.toList us) : ACalls Tryd.prog 1 8 us H k fun v _ _ => v = .bool true := by
  rw [Tryd.params8] at h
  obtain ⟨u1, r1, rfl, h1, h⟩ := AVs.cons_inv h
  obtain ⟨u2, r2, rfl, h2, h⟩ := AVs.cons_inv h
  obtain ⟨u3, r3, rfl, h3, h⟩ := AVs.cons_inv h
  obtain ⟨u4, r4, rfl, h4, h⟩ := AVs.cons_inv h
  cases AVs.nil_inv h
  obtain ⟨d, rfl⟩ := hash_arg h1
  obtain ⟨i, rfl, i1, i2⟩ := int_arg h2
  obtain ⟨n, rfl, n1, n2⟩ := int_arg h3
  obtain ⟨p, A, c, rfl, g1, g2⟩ := hashes_arg h4
  exact (treeFolds H k ht d i n i1 i2 n1 n2 p A c g1 g2).mono fun v H' k' h => h.1
end Go.Proofs.YtlbcgadmcjobiaaDoor
