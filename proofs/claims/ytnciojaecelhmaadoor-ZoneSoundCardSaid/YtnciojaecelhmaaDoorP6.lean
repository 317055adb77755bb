/- Contracts over the abstract states: the example of predicates; the statement that one of several is the one or the other. -/
import Derived.Test.YtnciojaecelhmaaDoorP5
set_option linter.unusedVariables false
set_option linter.unusedSimpArgs false
set_option maxRecDepth 100000
namespace Go.Proofs.YtnciojaecelhmaaDoor
open Go Go.Ab

theorem pick_mod (x n : Int) (h : 0 < n) : (x.tmod n < 0 → x.tmod n + n = x % n) ∧ (0 ≤ x.tmod n → x.tmod n = x % n) ∧ -n < x.tmod n ∧ x.tmod n < n := by
  have e := @Int.tmod_eq_emod x n
  have r1 := Int.emod_nonneg x (show n ≠ 0 by omega)
  have r2 := Int.emod_lt_of_pos x h
  split at e
  · omega
  · rename_i hc
    have r3 : x % n ≠ 0 := fun h0 => hc (.inr (Int.dvd_of_emod_eq_zero h0))
    omega
theorem PdV.intro {H : Hp} {op col : Int} {vals : List Val} {of : List Pd} {A : Option Addr} {c : Nat} {B : Option Addr} {d : Nat} {bs : List Value} (hA : slcCells H 3 (.slice A vals.length c) = some (vals3 vals)) (h1 : vals.length ≤ 9223372036854775807) (h2 : of.length ≤ 9223372036854775807) (h3 : -9223372036854775808 ≤ op ∧ op ≤ 9223372036854775807) (h4 : -9223372036854775808 ≤ col ∧ col ≤ 9223372036854775807) (h5 : ∀ v ∈ vals, v.ok) (hB : SLC H 4 B of.length d bs) (hP : PdVs H of bs) :
    PdV H (.mk op col vals of) (pv op col A vals.length c B of.length d) := by
  rw [PdV]
  exact ⟨A, c, B, d, bs, rfl, hA, h1, h2, h3, h4, h5, hB, hP⟩
theorem PdVs.nil {H : Hp} : PdVs H [] [] := by rw [PdVs]
theorem PdVs.cons {H : Hp} {p : Pd} {ps : List Pd} {v : Value} {r : List Value} (h : PdV H p v) (hr : PdVs H ps r) : PdVs H (p :: ps) (v.cells.toList ++ r) := by
  rw [PdVs]
  exact ⟨v, r, rfl, h, hr⟩
/-! ### One of several -/
section
variable (H : Hp) (k : Nat)

end

end Go.Proofs.YtnciojaecelhmaaDoor
