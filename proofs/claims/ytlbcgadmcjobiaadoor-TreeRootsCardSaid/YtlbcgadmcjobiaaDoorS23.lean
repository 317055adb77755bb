/- The statement on roots and paths over whatever abstract arguments. No condition. -/
import Derived.Test.YtlbcgadmcjobiaaDoorS22
import Derived.Test.YtlbcgadmcjobiaaDoorS10
set_option linter.unusedVariables false
set_option maxRecDepth 100000
namespace Go.Proofs.YtlbcgadmcjobiaaDoor
open Go Go.Ab
theorem treeRoots_any (H : Hp) (k : Nat) (us : List Value) (ht : H 0 = some tabBlk) (h : AVs Tryd.prog H Tryd.f9.params.toList us) : ACalls Tryd.prog 1 9 us H k fun v _ _ => v = .bool true := by
  rw [Tryd.params9] at h
  obtain ⟨u1, r1, rfl, h1, h⟩ := AVs.cons_inv h
  obtain ⟨u2, r2, rfl, h2, h⟩ := AVs.cons_inv h
  obtain ⟨u3, r3, rfl, h3, h⟩ := AVs.cons_inv h
  cases AVs.nil_inv h
  obtain ⟨ls, vs, A, c, rfl, g1, g2, g3, _⟩ := leaves_arg h1
  obtain ⟨i, rfl, i1, i2⟩ := int_arg h2
  obtain ⟨n, rfl, n1, n2⟩ := int_arg h3
  by_cases hin : 0 ≤ i ∧ i < (vs.length : Int)
  · obtain ⟨a, rfl⟩ : ∃ a : Nat, i = a := ⟨i.toNat, by omega⟩
    by_cases hv : 2 ≤ vs.length
    · exact (treeRoots_in2 H k ht ls vs A c g1 g2 g3 a n n1 n2 (by omega) hv).mono fun v H' k' h => h.1
    · exact (treeRoots_in1 H k ht ls vs A c g1 g2 g3 a n n1 n2 (by omega) hv).mono fun v H' k' h => h.1
  · by_cases hv : 2 ≤ vs.length
    · exact (treeRoots_out2 H k ht ls vs A c g1 g2 g3 i i1 i2 n n1 n2 hin hv).mono fun v H' k' h => h.1
    · exact (treeRoots_out1 H k ht ls vs A c g1 g2 g3 i i1 i2 n n1 n2 hin hv).mono fun v H' k' h => h.1
end Go.Proofs.YtlbcgadmcjobiaaDoor
