/- The statement on clashes of paths, over whatever abstract arguments. No condition. -/
import Derived.Test.YtipaiielkpifoaaDoorL8
import Derived.Test.YtipaiielkpifoaaDoorS10
set_option linter.unusedVariables false
set_option maxRecDepth 100000
namespace Go.Proofs.YtipaiielkpifoaaDoor
open Go Go.Ab
theorem hashes_inv {H : Hp} : ∀ {l : Nat} {cs : List Value}, AD Tryd.prog H (.many (List.replicate l 31)) cs → ∃ p : List Dg, p.length = l ∧ cs = hcs p
  | 0, cs, h => ⟨[], rfl, h.nil_inv⟩
  | l + 1, cs, h => by
    rw [List.replicate_succ] at h
    obtain ⟨a, b, rfl, ha, _, hb⟩ := h.cons_inv
    obtain ⟨d, rfl⟩ := hash_inv ha
    obtain ⟨p, rfl, rfl⟩ := hashes_inv hb
    exact ⟨d :: p, rfl, rfl⟩
theorem hashes_arg {H : Hp} {u : Value} (h : AV Tryd.prog H 43 u) : ∃ (p : List Dg) (A : Option Addr) (c : Nat), u = .slice A p.length c ∧ SLC H 32 A p.length c (hcs p) ∧ p.length ≤ 9223372036854775807 := by
  obtain ⟨A, l, c, cells, e, h1, h2, h3, h4⟩ := (h.plain plain_slc).SLC_inv
  injection e with e
  subst e
  obtain ⟨p, rfl, rfl⟩ := hashes_inv h4
  exact ⟨p, A, c, rfl, h1, h3⟩
theorem clashPaths_any (H : Hp) (k : Nat) (us : List Value) (ht : H 0 = some tabBlk) (h : AVs Tryd.prog H Tryd.f6.params.toList us) : ACalls Tryd.prog 1 6 us H k fun v _ _ => v = .bool true := by
  rw [Tryd.params6] at h
  obtain ⟨u1, r1, rfl, h1, h⟩ := AVs.cons_inv h
  obtain ⟨u2, r2, rfl, h2, h⟩ := AVs.cons_inv h
  obtain ⟨u3, r3, rfl, h3, h⟩ := AVs.cons_inv h
  obtain ⟨u4, r4, rfl, h4, h⟩ := AVs.cons_inv h
  cases AVs.nil_inv h
  obtain ⟨ls, vs, A, c, rfl, g1, g2, g3, _⟩ := leaves_arg h1
  obtain ⟨i, rfl, i1, i2⟩ := int_arg h2
  obtain ⟨b, B, d, rfl, b1, b2⟩ := bytes_arg h3
  obtain ⟨p, E, e, rfl, p1, p2⟩ := hashes_arg h4
  by_cases hi : 0 ≤ i ∧ i < (vs.length : Int)
  · obtain ⟨a, rfl⟩ : ∃ a : Nat, i = a := ⟨i.toNat, by omega⟩
    exact (clashPaths_in H k ht ls vs A c g1 g2 g3 a (by omega) b B d b1 b2 p E e p1 p2).mono fun v H' k' h => h.1
  · exact (clashPaths_out H k ht ls vs A c g1 g2 g3 i i1 i2 hi b B d b1 b2 p E e p1 p2).mono fun v H' k' h => h.1
end Go.Proofs.YtipaiielkpifoaaDoor
