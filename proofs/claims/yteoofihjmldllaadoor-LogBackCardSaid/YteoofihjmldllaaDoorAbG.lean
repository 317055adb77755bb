/- Laid variables of plain data: what their cells hold; a call starts with them. No condition but that the types are plain; over any program. -/
import Derived.Test.YteoofihjmldllaaDoorAb30
import Derived.Lib.LaidTab
set_option linter.unusedVariables false
set_option linter.unusedSimpArgs false
namespace Go.Ab
open Go.RowKit

end Go.Ab
namespace Go.Proofs.YteoofihjmldllaaDoor
open Go Go.Ab
/-! ### A slice's literal of one element of several cells -/
theorem fold_set : ∀ (vals : List Value) (k : Nat) (z0 : Array Value), k + vals.length ≤ z0.size →
    ((vals.zipIdx k).foldl (fun cs (p : Value × Nat) => cs.setIfInBounds (0 + p.2) p.1) z0).toList = z0.toList.take k ++ vals ++ z0.toList.drop (k + vals.length)
  | [], k, z0, _ => by simp
  | v :: vals, k, z0, hk => by
    simp only [List.length_cons] at hk
    rw [List.zipIdx_cons, List.foldl_cons, fold_set vals (k + 1) _ (by simp; omega)]
    have hl : k < z0.toList.length := by rw [Array.length_toList]; omega
    have e : (z0.setIfInBounds (0 + k) v).toList = z0.toList.take k ++ v :: z0.toList.drop (k + 1) := by
      rw [Nat.zero_add, Array.toList_setIfInBounds, List.set_eq_take_append_cons_drop, if_pos hl]
    have ht : (z0.toList.take k ++ v :: z0.toList.drop (k + 1)).take (k + 1) = z0.toList.take k ++ [v] := by
      rw [List.take_append, List.take_take, Nat.min_eq_right (by omega), List.length_take, Nat.min_eq_left (by omega), show k + 1 - k = 1 by omega]
      simp
    have hd : (z0.toList.take k ++ v :: z0.toList.drop (k + 1)).drop (k + 1 + vals.length) = z0.toList.drop (k + (vals.length + 1)) := by
      rw [List.drop_append, List.length_take, Nat.min_eq_left (by omega), List.drop_eq_nil_of_le (show (z0.toList.take k).length ≤ k + 1 + vals.length by rw [List.length_take]; omega), show k + 1 + vals.length - k = vals.length + 1 by omega, List.drop_succ_cons, List.drop_drop, List.nil_append]
      congr 1
      omega
    rw [e, ht, hd, List.length_cons]
    simp
theorem AOp.buildH {P : Program} {NG : Nat} {fr : Fr} {H : Hp} {nk : Nat} {R : Value → Hp → Nat → Prop} {o : Oper} {t e : TypeId} {ps : Array (Nat × Operand)} {z v : Value} {n : Nat} (cs : List Value) (hv : v = .agg cs.toArray) (hn : cs.length = n) (h0 : 0 < n) (hb : n ≤ 16777216) (ho : o.op = .buildSlice t 1 ps) [hf : SlInfo P t e n] [hz : ZeroInfo P e z]
    (hx : aparts NG fr ps = some [(0, v)])
    (hR : R (.slice (some ⟨nk, 0, some 1⟩) 1 1) (upd H nk (some { cells := cs, elem := e, kind := .grow, esz := n })) (nk + 1)) : AOp P NG o ⟨fr, H, nk⟩ R := by
  subst hv
  have hz : (litZ z (1 * n)).size = n := by
    unfold litZ
    rw [if_neg (by omega)]
    simp
  have hc : (Value.agg cs.toArray).cells = cs.toArray := rfl
  have hfl := fold_set cs 0 (litZ z (1 * n)) (by omega)
  rw [List.take_zero, List.nil_append, List.drop_eq_nil_of_le (by rw [Array.length_toList]; omega), List.append_nil] at hfl
  refine AOp.buildGr (cells := cs.toArray) ho h0 (by omega) hx ?_ (by simp; omega) hR
  simp only [Instr.fill, hc]
  rw [if_neg (by rw [List.size_toArray, hn, hz, Nat.zero_mul]; simp)]
  congr 1
  apply Array.toList_inj.1
  refine Eq.trans (congrArg Array.toList ?_) hfl
  rw [← Array.foldl_toList]
  simp
/-! ### Nil in a variable, taken up as a slice that grows -/
section
variable {P : Program} {NG B : Nat} {w0 w : World} {G : GMap} {H : Hp} {k : Nat}
end
end Go.Proofs.YteoofihjmldllaaDoor

/- Short forms: what a heap keeps of another one, and what lies in a block, found by what is at hand. No condition. -/
namespace Go.Ab
/-- What a call's heap keeps, as found by its target. -/
structure SubS (X Y : Hp) : Prop where
  of ::
  s : Sub X Y
theorem SubS.at_ {X Y : Hp} (h : SubS X Y) {n : Nat} {b : Blk} (hn : X n = some b) : Y n = some b := h.s n b hn
theorem SubS.tr {X Y Z : Hp} (hs : Sub X Y) (h : SubS Y Z) : Sub X Z := sub_trans hs h.s
theorem hpA {X : Hp} {n : Nat} {b : Blk} (h : X n = some b := by repeat (first | assumption | exact upd_same _ _ _ | refine (upd_other _ _ (by omega)).trans ?_ | refine SubS.at_ (by assumption) ?_)) : X n = some b := h
theorem sub_one1 {X : Hp} {k : Nat} {b : Blk} (h : X k = some b) : Sub (upd (fun _ => none) k (some b)) X := fun m c hm => by
  by_cases e : m = k
  · subst e; rw [upd_same] at hm; injection hm with hm; subst hm; exact h
  · rw [upd_other _ _ e] at hm; cases hm
theorem sub_two1 {X : Hp} {k m : Nat} {b c : Blk} (h : X k = some b) (h2 : X m = some c) : Sub (upd (upd (fun _ => none) k (some b)) m (some c)) X := fun j d hm => by
  by_cases e : j = m
  · subst e; rw [upd_same] at hm; injection hm with hm; subst hm; exact h2
  · rw [upd_other _ _ e] at hm; exact sub_one1 h j d hm
theorem sub_newH {X Y : Hp} {q : Nat} {z : Option Blk} (h : Sub X Y) (hq : X q = none) : Sub X (upd Y q z) := fun m b hm => by
  by_cases e : m = q
  · subst e; rw [hq] at hm; cases hm
  · exact (upd_other _ _ e).trans (h m b hm)
theorem subA {X Y : Hp} (h : Sub X Y := by repeat (first | exact sub_refl _ | assumption | exact sub_one1 hpA | exact sub_two1 hpA hpA | refine sub_upd' ?_ (by ((repeat refine (upd_other _ _ (by omega)).trans ?_); first | (apply_assumption <;> omega) | fail)) | refine SubS.tr ?_ (by assumption) | refine sub_newH ?_ (by first | assumption | (apply_assumption <;> omega) | fail) | refine sub_over (by assumption) | refine sub_over0 ?_ | refine sub_trans (sub_same (by assumption)) ?_ | refine sub_dropu ?_ | refine sub_drop ?_ | refine sub_put ?_ (by repeat (first | assumption | exact upd_same _ _ _ | refine (upd_other _ _ (by omega)).trans ?_ | refine SubS.at_ (by assumption) ?_)))) : Sub X Y := h
end Go.Ab
