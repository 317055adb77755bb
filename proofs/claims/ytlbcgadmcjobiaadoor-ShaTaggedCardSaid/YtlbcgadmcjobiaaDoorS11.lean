/- The statements on digests over whatever abstract arguments: they answer true. -/
import Derived.Test.YtlbcgadmcjobiaaDoorS9
import Derived.Test.YtlbcgadmcjobiaaDoorS10
set_option linter.unusedVariables false
set_option maxRecDepth 100000
namespace Go.Proofs.YtlbcgadmcjobiaaDoor
open Go Go.Ab
theorem shaSums_any (H : Hp) (k : Nat) (us : List Value) (ht : H 0 = some tabBlk) (h : AVs Tryd.prog H Tryd.f3.params.toList us) : ACalls Tryd.prog 1 3 us H k fun v _ _ => v = .bool true := by
  rw [Tryd.params3] at h
  obtain ⟨u1, r1, rfl, h1, h⟩ := AVs.cons_inv h
  cases AVs.nil_inv h
  obtain ⟨b, A, c, rfl, g1, g2⟩ := bytes_arg h1
  exact (shaSums H k ht b A c g1 g2).mono fun v H' k' h => h.1
theorem shaHex_any (H : Hp) (k : Nat) (us : List Value) (ht : H 0 = some tabBlk) (h : AVs Tryd.prog H Tryd.f4.params.toList us) : ACalls Tryd.prog 1 4 us H k fun v _ _ => v = .bool true := by
  rw [Tryd.params4] at h
  obtain ⟨u1, r1, rfl, h1, h⟩ := AVs.cons_inv h
  obtain ⟨u2, r2, rfl, h2, h⟩ := AVs.cons_inv h
  cases AVs.nil_inv h
  obtain ⟨a, rfl⟩ := hash_arg h1
  obtain ⟨b, rfl⟩ := hash_arg h2
  exact (shaHex H k ht a b).mono fun v H' k' h => h.1
theorem shaTagged_any (H : Hp) (k : Nat) (us : List Value) (ht : H 0 = some tabBlk) (h : AVs Tryd.prog H Tryd.f5.params.toList us) : ACalls Tryd.prog 1 5 us H k fun v _ _ => v = .bool true := by
  rw [Tryd.params5] at h
  obtain ⟨u1, r1, rfl, h1, h⟩ := AVs.cons_inv h
  obtain ⟨u2, r2, rfl, h2, h⟩ := AVs.cons_inv h
  cases AVs.nil_inv h
  obtain ⟨tag, rfl⟩ := byte_arg h1
  obtain ⟨ls, vs, A, c, rfl, g1, g2, g3, _⟩ := leaves_arg h2
  exact (shaTagged H k ht tag ls vs A c g1 g2 g3).mono fun v H' k' h => h.1
end Go.Proofs.YtlbcgadmcjobiaaDoor
