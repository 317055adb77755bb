/- The statement on clashes of proofs, over whatever abstract arguments. No condition. -/
import Derived.Test.YtipaiielkpifoaaDoorL11
import Derived.Test.YtipaiielkpifoaaDoorLA
set_option linter.unusedVariables false
set_option maxRecDepth 100000
namespace Go.Proofs.YtipaiielkpifoaaDoor
open Go Go.Ab
theorem clashGrown_any (H : Hp) (k : Nat) (us : List Value) (ht : H 0 = some tabBlk) (h : AVs Tryd.prog H Tryd.f7.params.toList us) : ACalls Tryd.prog 1 7 us H k fun v _ _ => v = .bool true := by
  rw [Tryd.params7] at h
  obtain ⟨u1, r1, rfl, h1, h⟩ := AVs.cons_inv h
  obtain ⟨u2, r2, rfl, h2, h⟩ := AVs.cons_inv h
  obtain ⟨u3, r3, rfl, h3, h⟩ := AVs.cons_inv h
  obtain ⟨u4, r4, rfl, h4, h⟩ := AVs.cons_inv h
  cases AVs.nil_inv h
  obtain ⟨ls, vs, A, c, rfl, g1, g2, g3, _⟩ := leaves_arg h1
  obtain ⟨m, rfl, m1, m2⟩ := int_arg h2
  obtain ⟨a, rfl⟩ := hash_arg h3
  obtain ⟨p, E, e, rfl, p1, p2⟩ := hashes_arg h4
  by_cases hm : 0 ≤ m ∧ m ≤ (vs.length : Int)
  · obtain ⟨x, rfl⟩ : ∃ x : Nat, m = x := ⟨m.toNat, by omega⟩
    exact (clashGrown_in H k ht ls vs A c g1 g2 g3 x (by omega) a p E e p1 p2).mono fun v H' k' h => h.1
  · exact (clashGrown_out H k ht ls vs A c g1 g2 g3 m m1 m2 hm a p E e p1 p2).mono fun v H' k' h => h.1
end Go.Proofs.YtipaiielkpifoaaDoor
