/- Contracts over the abstract states: the reference's reader: errors, short numbers, bytes, blobs. -/
import Derived.Test.YtnciojaecelhmaaDoorR2
set_option linter.unusedVariables false
set_option linter.unusedSimpArgs false
set_option maxRecDepth 100000
namespace Go.Proofs.YtnciojaecelhmaaDoor
open Go Go.Ab

theorem wrapN (x : Nat) (h : x < 18446744073709551616) : IntKind.u64.wrap (x : Int) = (x : Int) := by
  have e2 : (x : Int) < 18446744073709551616 := Int.ofNat_lt.2 h
  rw [IntKind.wrap_u64, Int.emod_eq_of_lt (Int.natCast_nonneg _) e2]
section
variable (H : Hp) (k : Nat)

end

end Go.Proofs.YtnciojaecelhmaaDoor
