/- Pairs of digests in memory: made, loaded, compared. No condition. -/
import Derived.Test.YtipaiielkpifoaaDoorS24
set_option linter.unusedVariables false
set_option linter.unusedSimpArgs false
set_option maxRecDepth 100000
namespace Go.Proofs.YtipaiielkpifoaaDoor
open Go Go.Ab

theorem fold_at : ∀ (vals : List Value) (o k : Nat) (z0 : Array Value), o + k + vals.length ≤ z0.size →
    ((vals.zipIdx k).foldl (fun cs (p : Value × Nat) => cs.setIfInBounds (o + p.2) p.1) z0).toList = z0.toList.take (o + k) ++ vals ++ z0.toList.drop (o + k + vals.length)
  | [], o, k, z0, _ => by simp
  | v :: vals, o, k, z0, hk => by
    simp only [List.length_cons] at hk
    rw [List.zipIdx_cons, List.foldl_cons, fold_at vals o (k + 1) _ (by simp; omega)]
    have hl : o + k < z0.toList.length := by rw [Array.length_toList]; omega
    have e : (z0.setIfInBounds (o + k) v).toList = z0.toList.take (o + k) ++ v :: z0.toList.drop (o + k + 1) := by
      rw [Array.toList_setIfInBounds, List.set_eq_take_append_cons_drop, if_pos hl]
    have ht : (z0.toList.take (o + k) ++ v :: z0.toList.drop (o + k + 1)).take (o + (k + 1)) = z0.toList.take (o + k) ++ [v] := by
      rw [List.take_append, List.take_take, Nat.min_eq_right (by omega), List.length_take, Nat.min_eq_left (by omega), show o + (k + 1) - (o + k) = 1 by omega]
      simp
    have hd : (z0.toList.take (o + k) ++ v :: z0.toList.drop (o + k + 1)).drop (o + (k + 1) + vals.length) = z0.toList.drop (o + k + (vals.length + 1)) := by
      rw [List.drop_append, List.length_take, Nat.min_eq_left (by omega), List.drop_eq_nil_of_le (show (z0.toList.take (o + k)).length ≤ o + (k + 1) + vals.length by rw [List.length_take]; omega), show o + (k + 1) + vals.length - (o + k) = vals.length + 1 by omega, List.drop_succ_cons, List.drop_drop, List.nil_append]
      congr 1
      omega
    rw [e, ht, hd, List.length_cons]
    simp
/-- A part that is an aggregate is put at its place. -/
theorem fill_put {place : Nat → Option (Nat × Nat)} {i off n : Nat} {A : List Value} {z0 : Array Value} {rest : List (Nat × Value)} {v : Value} (hv : v.cells = A.toArray) (hp : place i = some (off, n)) (hA : A.length = n) (hz : off + n ≤ z0.size) :
    ∃ z1 : Array Value, Instr.fill place z0 ((i, v) :: rest) = Instr.fill place z1 rest ∧ z1.toList = z0.toList.take off ++ A ++ z0.toList.drop (off + n) := by
  have hfl := fold_at A off 0 z0 (by omega)
  refine ⟨(A.zipIdx 0).foldl (fun cs (p : Value × Nat) => cs.setIfInBounds (off + p.2) p.1) z0, ?_, by rw [hA, Nat.add_zero] at hfl; exact hfl⟩
  simp only [Instr.fill, hp, hv]
  rw [if_neg (by rw [List.size_toArray, hA]; simp; omega), ← Array.foldl_toList]
  simp
section
variable {P : Program} {NG : Nat} {fr : Fr} {H : Hp} {nk : Nat} {R : Value → Hp → Nat → Prop} {o : Oper}
end
end Go.Proofs.YtipaiielkpifoaaDoor
