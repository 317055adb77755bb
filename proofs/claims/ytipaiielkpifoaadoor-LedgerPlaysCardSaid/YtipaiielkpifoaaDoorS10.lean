/- What the arguments of the statements on digests and trees are. No condition. -/
import Derived.Test.YtipaiielkpifoaaDoorAbF
import Derived.Test.YtipaiielkpifoaaDoorS0
set_option linter.unusedVariables false
set_option maxRecDepth 100000
namespace Go.Proofs.YtipaiielkpifoaaDoor
open Go Go.Ab
theorem plain_slc {e : TypeId} : (∀ fs, TypeDesc.slice e ≠ .struct fs) ∧ ∀ n e', TypeDesc.slice e ≠ .array n e' := ⟨fun _ h => (TypeDesc.noConfusion h), fun _ _ h => (TypeDesc.noConfusion h)⟩
theorem plain_int {k : IntKind} : (∀ fs, TypeDesc.int k ≠ .struct fs) ∧ ∀ n e', TypeDesc.int k ≠ .array n e' := ⟨fun _ h => (TypeDesc.noConfusion h), fun _ _ h => (TypeDesc.noConfusion h)⟩
section
variable {H : Hp} {u : Value}
theorem bytes_inv {cs : List Value} (h : AD Tryd.prog H (.one 25) cs) : ∃ (bs : List UInt8) (A : Option Addr) (c : Nat), cs = [.slice A bs.length c] ∧ SLC H 1 A bs.length c (bs.map bv) ∧ bs.length ≤ maxLen := by
  obtain ⟨A, l, c, cells, rfl, h1, h2, h3, h4⟩ := h.SLC_inv
  obtain ⟨bs, rfl, rfl⟩ := h4.bytes_inv
  exact ⟨bs, A, c, rfl, h1, h3⟩
theorem hash_inv {cs : List Value} (h : AD Tryd.prog H (.one 31) cs) : ∃ d : Dg, cs = d.l.map bv := by
  obtain ⟨bs, h1, rfl⟩ := h.array_inv.bytes_inv
  exact ⟨⟨bs, h1⟩, rfl⟩
theorem int_arg (h : AV Tryd.prog H 3 u) : ∃ n : Int, u = .int .i64 n ∧ -9223372036854775808 ≤ n ∧ n ≤ 9223372036854775807 := by
  obtain ⟨n, e, h1, h2⟩ := (h.plain plain_int).int_inv
  injection e with e
  exact ⟨n, e, h1, h2⟩
end
end Go.Proofs.YtipaiielkpifoaaDoor
