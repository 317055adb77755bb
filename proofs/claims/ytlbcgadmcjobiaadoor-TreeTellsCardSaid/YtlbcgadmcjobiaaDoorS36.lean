/- The statement that roots tell leaves, over whatever abstract arguments. No condition. -/
import Derived.Test.YtlbcgadmcjobiaaDoorS35
import Derived.Test.YtlbcgadmcjobiaaDoorS10
set_option linter.unusedVariables false
set_option maxRecDepth 100000
namespace Go.Proofs.YtlbcgadmcjobiaaDoor
open Go Go.Ab
theorem treeTells_any (H : Hp) (k : Nat) (us : List Value) (ht : H 0 = some tabBlk) (h : AVs Tryd.prog H Tryd.f6.params.toList us) : ACalls Tryd.prog 1 6 us H k fun v _ _ => v = .bool true := by
  rw [Tryd.params6] at h
  obtain ⟨u1, r1, rfl, h1, h⟩ := AVs.cons_inv h
  obtain ⟨u2, r2, rfl, h2, h⟩ := AVs.cons_inv h
  cases AVs.nil_inv h
  obtain ⟨ls, vs, A, c, rfl, g1, g2, g3, _⟩ := leaves_arg h1
  obtain ⟨ms, ws, B, d, rfl, g4, g5, g6, _⟩ := leaves_arg h2
  exact (treeTells H k ht ls ms vs ws A B c d g1 g2 g3 g4 g5 g6).mono fun v H' k' h => h.1
end Go.Proofs.YtlbcgadmcjobiaaDoor
