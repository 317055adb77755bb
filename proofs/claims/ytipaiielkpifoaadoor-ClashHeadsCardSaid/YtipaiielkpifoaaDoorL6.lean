/- The statements on clashes of leaves and of heads, over whatever abstract arguments. No condition. -/
import Derived.Test.YtipaiielkpifoaaDoorL5
import Derived.Test.YtipaiielkpifoaaDoorS10
set_option linter.unusedVariables false
set_option maxRecDepth 100000
namespace Go.Proofs.YtipaiielkpifoaaDoor
open Go Go.Ab
theorem clashLeaves_any (H : Hp) (k : Nat) (us : List Value) (ht : H 0 = some tabBlk) (h : AVs Tryd.prog H Tryd.f3.params.toList us) : ACalls Tryd.prog 1 3 us H k fun v _ _ => v = .bool true := by
  rw [Tryd.params3] at h
  obtain ⟨u1, r1, rfl, h1, h⟩ := AVs.cons_inv h
  obtain ⟨u2, r2, rfl, h2, h⟩ := AVs.cons_inv h
  cases AVs.nil_inv h
  obtain ⟨ls, vs, A, c, rfl, g1, g2, g3, _⟩ := leaves_arg h1
  obtain ⟨ms, ws, B, d, rfl, g4, g5, g6, _⟩ := leaves_arg h2
  exact (clashLeaves H k ht ls ms vs ws A B c d g1 g2 g3 g4 g5 g6).mono fun v H' k' h => h.1
theorem clashHeads_any (H : Hp) (k : Nat) (us : List Value) (ht : H 0 = some tabBlk) (h : AVs Tryd.prog H Tryd.f4.params.toList us) : ACalls Tryd.prog 1 4 us H k fun v _ _ => v = .bool true := by
  rw [Tryd.params4] at h
  obtain ⟨u1, r1, rfl, h1, h⟩ := AVs.cons_inv h
  obtain ⟨u2, r2, rfl, h2, h⟩ := AVs.cons_inv h
  obtain ⟨u3, r3, rfl, h3, h⟩ := AVs.cons_inv h
  obtain ⟨u4, r4, rfl, h4, h⟩ := AVs.cons_inv h
  cases AVs.nil_inv h
  obtain ⟨s, rfl, s1, s2⟩ := int_arg h1
  obtain ⟨d, rfl⟩ := hash_arg h2
  obtain ⟨t, rfl, t1, t2⟩ := int_arg h3
  obtain ⟨e, rfl⟩ := hash_arg h4
  exact (clashHeads H k ht s t s1 s2 t1 t2 d e).mono fun v H' k' h => h.1
end Go.Proofs.YtipaiielkpifoaaDoor
