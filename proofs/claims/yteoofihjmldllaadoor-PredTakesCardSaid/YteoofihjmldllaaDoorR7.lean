/- Contracts over the abstract states: rows out of readers. -/
import Derived.Test.YteoofihjmldllaaDoorR6
set_option linter.unusedVariables false
set_option linter.unusedSimpArgs false
set_option maxRecDepth 100000
namespace Go.Proofs.YteoofihjmldllaaDoor
open Go Go.Ab

theorem rloop_c {i m : Nat} {e e0 : Int} (h0 : i = 0 → e = 0 → e0 = 0) (h1 : 0 < i → e0 = 0) (hm : e0 = 0 → m ≤ 65536) (hi : i ≤ m) : (decide ((i : Int) < IntKind.i64.wrap (m : Int)) && (e == 0)) = decide (i < m ∧ e = 0) := by
  by_cases he : e = 0
  · have h2 : e0 = 0 := (Nat.eq_zero_or_pos i).elim (fun h => h0 h he) h1
    have h3 := hm h2
    rw [i64_wrap (show -9223372036854775808 ≤ (m : Int) by omega) (by omega), he, Bool.eq_iff_iff]
    simp
  · rw [show (e == 0) = false from beq_eq_false_iff_ne.2 he, Bool.and_false, decide_eq_false (fun h => he h.2)]
section
variable (H : Hp) (k : Nat)

end

end Go.Proofs.YteoofihjmldllaaDoor
