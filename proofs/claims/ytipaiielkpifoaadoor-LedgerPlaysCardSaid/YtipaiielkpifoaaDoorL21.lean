/- The statement on what a ledger has and tells, over whatever abstract arguments. No condition. -/
import Derived.Test.YtipaiielkpifoaaDoorL20
import Derived.Test.YtipaiielkpifoaaDoorL19
set_option linter.unusedVariables false
set_option maxRecDepth 100000
namespace Go.Proofs.YtipaiielkpifoaaDoor
open Go Go.Ab
theorem ledgerPlays_any (H : Hp) (k : Nat) (us : List Value) (ht : H 0 = some tabBlk) (h : AVs Tryd.prog H Tryd.f5.params.toList us) : ACalls Tryd.prog 1 5 us H k fun v _ _ => v = .bool true := by
  rw [Tryd.params5] at h
  obtain ⟨u1, r1, rfl, h1, h⟩ := AVs.cons_inv h
  obtain ⟨u2, r2, rfl, h2, h⟩ := AVs.cons_inv h
  cases AVs.nil_inv h
  obtain ⟨l, A, c, rfl, g1, g2, _⟩ := entries_arg h1
  obtain ⟨i, rfl, i1, i2⟩ := int_arg h2
  by_cases hi : 0 ≤ i ∧ i ≤ ((goods l).length : Int)
  · obtain ⟨a, rfl⟩ : ∃ a : Nat, i = a := ⟨i.toNat, by omega⟩
    by_cases ha : a < (goods l).length
    · exact (ledgerPlays_A H k ht l A c g1 g2 a ha).mono fun v H' k' h => h.1
    · exact (ledgerPlays_B H k ht l A c g1 g2 a (by omega)).mono fun v H' k' h => h.1
  · exact (ledgerPlays_C H k ht l A c g1 g2 i i1 i2 hi).mono fun v H' k' h => h.1
end Go.Proofs.YtipaiielkpifoaaDoor
