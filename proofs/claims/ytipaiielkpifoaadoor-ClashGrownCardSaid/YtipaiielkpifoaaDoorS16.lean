/- Paths of digests: slices of digests, how long a path is, what folds; plain Lean. No condition. -/
import Derived.Test.YtipaiielkpifoaaDoorS13
set_option linter.unusedVariables false
set_option linter.unusedSimpArgs false
set_option maxRecDepth 100000
namespace Go.Proofs.YtipaiielkpifoaaDoor
open Go Go.Ab

/-- The cells of digests behind each other. -/
abbrev hcs (l : List Dg) : List Value := l.flatMap fun d => d.l.map bv
theorem hcs_one (d : Dg) : (d.l.map bv).length = 32 := by rw [List.length_map, d.h]
theorem hcs_take (l : List Dg) : ∀ k, (hcs l).take (k * 32) = hcs (l.take k) := by
  induction l with
  | nil => intro k; simp [hcs]
  | cons d l ih =>
    intro k
    cases k with
    | zero => simp [hcs]
    | succ k =>
      rw [List.take_succ_cons, show hcs (d :: l) = d.l.map bv ++ hcs l from rfl, show hcs (d :: l.take k) = d.l.map bv ++ hcs (l.take k) from rfl, List.take_append, hcs_one, List.take_of_length_le (by rw [hcs_one]; omega),
        show (k + 1) * 32 - 32 = k * 32 by omega, ih]
theorem SLC.cutH {H : Hp} {c0 : Nat} {A0 : Option Addr} {l : List Dg} (hS : SLC H 32 A0 l.length c0 (hcs l)) (k : Nat) (h : k ≤ l.length) :
    ∃ A c, aslice H 32 0 k none (.slice A0 l.length c0) = some (.slice A (l.take k).length c) ∧ SLC H 32 A (l.take k).length c (hcs (l.take k)) := by
  obtain ⟨A, c, h1, h2⟩ := SLC.cut hS 0 k none (Nat.zero_le _) h (by intro x hx; cases hx)
  have e : (l.take k).length = k - 0 := by rw [List.length_take]; omega
  rw [Nat.zero_mul, List.drop_zero, Nat.sub_zero, hcs_take] at h2
  exact ⟨A, c, by rw [e]; exact h1, by rw [e]; exact h2⟩
theorem SLC.elH {H : Hp} {c0 i : Nat} {A0 : Option Addr} {l : List Dg} (hS : SLC H 32 A0 l.length c0 (hcs l)) (d : Dg) (hi : i < l.length) :
    ∃ n off sp, aslcAt H 32 i (.slice A0 l.length c0) = some (ptr n off sp) ∧ PAt H n off sp ((l.getD i d).l.map bv) := by
  rw [getD_el hi]
  exact slcEl hS.cells hcs_one (by decide) hi

def zeroD : Dg := ⟨List.replicate 32 0, rfl⟩
end Go.Proofs.YtipaiielkpifoaaDoor
