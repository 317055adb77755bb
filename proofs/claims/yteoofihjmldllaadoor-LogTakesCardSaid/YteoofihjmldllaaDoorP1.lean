/- Laid variables of plain data: what their cells hold; a call starts with them. No condition but that the types are plain; over any program. -/
import Derived.Test.YteoofihjmldllaaDoorAb30
import Derived.Lib.LaidTab
set_option linter.unusedVariables false
set_option linter.unusedSimpArgs false
namespace Go.Ab
open Go.RowKit

end Go.Ab
namespace Go.Proofs.YteoofihjmldllaaDoor
open Go Go.Ab
/-! ### A slice's literal of one element of several cells -/
theorem fold_set : ∀ (vals : List Value) (k : Nat) (z0 : Array Value), k + vals.length ≤ z0.size →
    ((vals.zipIdx k).foldl (fun cs (p : Value × Nat) => cs.setIfInBounds (0 + p.2) p.1) z0).toList = z0.toList.take k ++ vals ++ z0.toList.drop (k + vals.length)
  | [], k, z0, _ => by simp
  | v :: vals, k, z0, hk => by
    simp only [List.length_cons] at hk
    rw [List.zipIdx_cons, List.foldl_cons, fold_set vals (k + 1) _ (by simp; omega)]
    have hl : k < z0.toList.length := by rw [Array.length_toList]; omega
    have e : (z0.setIfInBounds (0 + k) v).toList = z0.toList.take k ++ v :: z0.toList.drop (k + 1) := by
      rw [Nat.zero_add, Array.toList_setIfInBounds, List.set_eq_take_append_cons_drop, if_pos hl]
    have ht : (z0.toList.take k ++ v :: z0.toList.drop (k + 1)).take (k + 1) = z0.toList.take k ++ [v] := by
      rw [List.take_append, List.take_take, Nat.min_eq_right (by omega), List.length_take, Nat.min_eq_left (by omega), show k + 1 - k = 1 by omega]
      simp
    have hd : (z0.toList.take k ++ v :: z0.toList.drop (k + 1)).drop (k + 1 + vals.length) = z0.toList.drop (k + (vals.length + 1)) := by
      rw [List.drop_append, List.length_take, Nat.min_eq_left (by omega), List.drop_eq_nil_of_le (show (z0.toList.take k).length ≤ k + 1 + vals.length by rw [List.length_take]; omega), show k + 1 + vals.length - k = vals.length + 1 by omega, List.drop_succ_cons, List.drop_drop, List.nil_append]
      congr 1
      omega
    rw [e, ht, hd, List.length_cons]
    simp
theorem AOp.buildH {P : Program} {NG : Nat} {fr : Fr} {H : Hp} {nk : Nat} {R : Value → Hp → Nat → Prop} {o : Oper} {t e : TypeId} {ps : Array (Nat × Operand)} {z v : Value} {n : Nat} (cs : List Value) (hv : v = .agg cs.toArray) (hn : cs.length = n) (h0 : 0 < n) (hb : n ≤ 16777216) (ho : o.op = .buildSlice t 1 ps) [hf : SlInfo P t e n] [hz : ZeroInfo P e z]
    (hx : aparts NG fr ps = some [(0, v)])
    (hR : R (.slice (some ⟨nk, 0, some 1⟩) 1 1) (upd H nk (some { cells := cs, elem := e, kind := .grow, esz := n })) (nk + 1)) : AOp P NG o ⟨fr, H, nk⟩ R := by
  subst hv
  have hz : (litZ z (1 * n)).size = n := by
    unfold litZ
    rw [if_neg (by omega)]
    simp
  have hc : (Value.agg cs.toArray).cells = cs.toArray := rfl
  have hfl := fold_set cs 0 (litZ z (1 * n)) (by omega)
  rw [List.take_zero, List.nil_append, List.drop_eq_nil_of_le (by rw [Array.length_toList]; omega), List.append_nil] at hfl
  refine AOp.buildGr (cells := cs.toArray) ho h0 (by omega) hx ?_ (by simp; omega) hR
  simp only [Instr.fill, hc]
  rw [if_neg (by rw [List.size_toArray, hn, hz, Nat.zero_mul]; simp)]
  congr 1
  apply Array.toList_inj.1
  refine Eq.trans (congrArg Array.toList ?_) hfl
  rw [← Array.foldl_toList]
  simp
/-! ### Nil in a variable, taken up as a slice that grows -/
section
variable {P : Program} {NG B : Nat} {w0 w : World} {G : GMap} {H : Hp} {k : Nat}
end
end Go.Proofs.YteoofihjmldllaaDoor
