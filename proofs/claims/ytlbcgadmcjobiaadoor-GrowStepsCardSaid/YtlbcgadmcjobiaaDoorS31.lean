/- The statements on proofs that leaves have grown, over whatever abstract arguments. No condition. -/
import Derived.Test.YtlbcgadmcjobiaaDoorS30
import Derived.Test.YtlbcgadmcjobiaaDoorS19
set_option linter.unusedVariables false
set_option maxRecDepth 100000
namespace Go.Proofs.YtlbcgadmcjobiaaDoor
open Go Go.Ab
theorem growProofs_any (H : Hp) (k : Nat) (us : List Value) (ht : H 0 = some tabBlk) (h : AVs Tryd.prog H Tryd.f10.params.toList us) : ACalls Tryd.prog 1 10 us H k fun v _ _ => v = .bool true := by
  rw [Tryd.params10] at h
  obtain ⟨u1, r1, rfl, h1, h⟩ := AVs.cons_inv h
  obtain ⟨u2, r2, rfl, h2, h⟩ := AVs.cons_inv h
  cases AVs.nil_inv h
  obtain ⟨ls, vs, A, c, rfl, g1, g2, g3, _⟩ := leaves_arg h1
  obtain ⟨m, rfl, m1, m2⟩ := int_arg h2
  exact (growProofs H k ht ls vs A c g1 g2 g3 m m1 m2).mono fun v H' k' h => h.1
theorem growChecks_any (H : Hp) (k : Nat) (us : List Value) (ht : H 0 = some tabBlk) (h : AVs Tryd.prog H Tryd.f11.params.toList us) : ACalls Tryd.prog 1 11 us H k fun v _ _ => v = .bool true := by
  rw [Tryd.params11] at h
  obtain ⟨u1, r1, rfl, h1, h⟩ := AVs.cons_inv h
  obtain ⟨u2, r2, rfl, h2, h⟩ := AVs.cons_inv h
  obtain ⟨u3, r3, rfl, h3, h⟩ := AVs.cons_inv h
  obtain ⟨u4, r4, rfl, h4, h⟩ := AVs.cons_inv h
  obtain ⟨u5, r5, rfl, h5, h⟩ := AVs.cons_inv h
  cases AVs.nil_inv h
  obtain ⟨m, rfl, m1, m2⟩ := int_arg h1
  obtain ⟨n, rfl, n1, n2⟩ := int_arg h2
  obtain ⟨a, rfl⟩ := hash_arg h3
  obtain ⟨b, rfl⟩ := hash_arg h4
  obtain ⟨p, A, c, rfl, g1, g2⟩ := hashes_arg h5
  exact (growChecks H k ht m n m1 m2 n1 n2 a b p A c g1 g2).mono fun v H' k' h => h.1
theorem growSteps_any (H : Hp) (k : Nat) (us : List Value) (ht : H 0 = some tabBlk) (h : AVs Tryd.prog H Tryd.f12.params.toList us) : ACalls Tryd.prog 1 12 us H k fun v _ _ => v = .bool true := by
  rw [Tryd.params12] at h
  obtain ⟨u1, r1, rfl, h1, h⟩ := AVs.cons_inv h
  obtain ⟨u2, r2, rfl, h2, h⟩ := AVs.cons_inv h
  obtain ⟨u3, r3, rfl, h3, h⟩ := AVs.cons_inv h
  cases AVs.nil_inv h
  obtain ⟨ls, vs, A, c, rfl, g1, g2, g3, _⟩ := leaves_arg h1
  obtain ⟨a, rfl, a1, a2⟩ := int_arg h2
  obtain ⟨b, rfl, b1, b2⟩ := int_arg h3
  exact (growSteps H k ht ls vs A c g1 g2 g3 a b a1 a2 b1 b2).mono fun v H' k' h => h.1
end Go.Proofs.YtlbcgadmcjobiaaDoor
