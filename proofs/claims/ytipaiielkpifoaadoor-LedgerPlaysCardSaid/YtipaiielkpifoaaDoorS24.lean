/- Proofs that leaves have grown, in plain Lean: the proof, how long it is, what it is put together to, whether it is one; a proof of what is so is one. No condition. -/
import Derived.Test.YtipaiielkpifoaaDoorS20
set_option linter.unusedVariables false
set_option linter.unusedSimpArgs false
set_option maxRecDepth 100000
namespace Go.Proofs.YtipaiielkpifoaaDoor
open Go Go.Ab

def stepsN (m n : Nat) : Nat :=
  if h : 2 ≤ n then if m = n then 0 else if m ≤ spN n then stepsN m (spN n) + 1 else stepsN (m - spN n) (n - spN n) + 1 else 0
termination_by n
decreasing_by all_goals (have := spN_spec h; omega)
def endP (m n : Nat) (part : Bool) : Bool :=
  if h : 2 ≤ n then if m = n then part else if m ≤ spN n then endP m (spN n) part else endP (m - spN n) (n - spN n) true else part
termination_by n
decreasing_by all_goals (have := spN_spec h; omega)
def proofT (l : List (List UInt8)) (m : Nat) (part : Bool) : List Dg :=
  if h : 2 ≤ l.length then
    if m = l.length then (if part then [root l] else [])
    else if m ≤ spN l.length then proofT (l.take (spN l.length)) m part ++ [root (l.drop (spN l.length))]
    else proofT (l.drop (spN l.length)) (m - spN l.length) true ++ [root (l.take (spN l.length))]
  else if part then [root l] else []
termination_by l.length
decreasing_by all_goals (have := spN_spec h; simp; omega)
def sizeN (m n : Nat) (part : Bool) : Nat := stepsN m n + (endP m n part).toNat

section
variable {m n : Nat} {part : Bool} {a : Dg} {p : List Dg} {l : List (List UInt8)}
theorem stepsN_eq : stepsN n n = 0 := by
  rw [stepsN]
  by_cases h : 2 ≤ n
  · rw [dif_pos h, if_pos rfl]
  · rw [dif_neg h]
theorem stepsN_l (h : 2 ≤ n) (hm : m ≤ spN n) : stepsN m n = stepsN m (spN n) + 1 := by
  have := spN_spec h
  rw [stepsN, dif_pos h, if_neg (by omega), if_pos hm]
theorem stepsN_r (h : 2 ≤ n) (hmn : m < n) (hm : ¬ m ≤ spN n) : stepsN m n = stepsN (m - spN n) (n - spN n) + 1 := by
  rw [stepsN, dif_pos h, if_neg (by omega), if_neg hm]
theorem endP_eq : endP n n part = part := by
  rw [endP]
  by_cases h : 2 ≤ n
  · rw [dif_pos h, if_pos rfl]
  · rw [dif_neg h]
theorem endP_l (h : 2 ≤ n) (hm : m ≤ spN n) : endP m n part = endP m (spN n) part := by
  have := spN_spec h
  rw [endP, dif_pos h, if_neg (by omega), if_pos hm]
theorem endP_r (h : 2 ≤ n) (hmn : m < n) (hm : ¬ m ≤ spN n) : endP m n part = endP (m - spN n) (n - spN n) true := by
  rw [endP, dif_pos h, if_neg (by omega), if_neg hm]
theorem sizeN_eq : sizeN n n part = part.toNat := by rw [sizeN, stepsN_eq, endP_eq, Nat.zero_add]
theorem sizeN_l (h : 2 ≤ n) (hm : m ≤ spN n) : sizeN m n part = sizeN m (spN n) part + 1 := by
  rw [sizeN, sizeN, stepsN_l h hm, endP_l h hm]; omega
theorem sizeN_r (h : 2 ≤ n) (hmn : m < n) (hm : ¬ m ≤ spN n) : sizeN m n part = sizeN (m - spN n) (n - spN n) true + 1 := by
  rw [sizeN, sizeN, stepsN_r h hmn hm, endP_r h hmn hm]; omega
theorem proofT_eq (h : m = l.length) : proofT l m part = if part then [root l] else [] := by
  rw [proofT]
  by_cases h2 : 2 ≤ l.length
  · rw [dif_pos h2, if_pos h]
  · rw [dif_neg h2]
theorem proofT_l (h : 2 ≤ l.length) (hm : m ≤ spN l.length) : proofT l m part = proofT (l.take (spN l.length)) m part ++ [root (l.drop (spN l.length))] := by
  have := spN_spec h
  rw [proofT, dif_pos h, if_neg (by omega), if_pos hm]
theorem proofT_r (h : 2 ≤ l.length) (hmn : m < l.length) (hm : ¬ m ≤ spN l.length) : proofT l m part = proofT (l.drop (spN l.length)) (m - spN l.length) true ++ [root (l.take (spN l.length))] := by
  rw [proofT, dif_pos h, if_neg (by omega), if_neg hm]
end

theorem proofT_len : ∀ (N m : Nat) (l : List (List UInt8)) (part : Bool), l.length < N → 1 ≤ m → m ≤ l.length → (proofT l m part).length = sizeN m l.length part
  | 0, m, l, part, h, _, _ => by omega
  | N + 1, m, l, part, h, h1, h2 => by
    rcases Nat.eq_or_lt_of_le h2 with e | e
    · rw [proofT_eq e, e, sizeN_eq]
      cases part <;> rfl
    · have hn : 2 ≤ l.length := by omega
      obtain ⟨s1, s2, s3⟩ := spN_spec hn
      have ht : (l.take (spN l.length)).length = spN l.length := by rw [List.length_take]; omega
      by_cases hm : m ≤ spN l.length
      · rw [proofT_l hn hm, sizeN_l hn hm, List.length_append, proofT_len N m _ part (by omega) h1 (by omega), ht]
        rfl
      · rw [proofT_r hn e hm, sizeN_r hn e hm, List.length_append, proofT_len N _ _ true (by rw [List.length_drop]; omega) (by omega) (by rw [List.length_drop]; omega), List.length_drop]
        rfl
theorem stepsN_le : ∀ (d m n : Nat), n ≤ 2 ^ d → m ≤ n → stepsN m n ≤ d
  | d, m, n, h, hm => by
    by_cases h2 : 2 ≤ n
    · obtain ⟨s1, s2, s3⟩ := spN_spec h2
      cases d with
      | zero => simp at h; omega
      | succ d =>
        have hk : spN n ≤ 2 ^ d := by
          have hlt : Nat.log2 (n - 1) < d + 1 := (Nat.log2_lt (by omega)).2 (by omega)
          exact Nat.pow_le_pow_right (by omega) (by omega)
        rcases Nat.eq_or_lt_of_le hm with e | e
        · rw [e, stepsN_eq]; omega
        · by_cases hmk : m ≤ spN n
          · rw [stepsN_l h2 hmk]
            have := stepsN_le d m (spN n) hk hmk
            omega
          · rw [stepsN_r h2 e hmk]
            have := stepsN_le d (m - spN n) (n - spN n) (by omega) (by omega)
            omega
    · rw [stepsN, dif_neg h2]; omega
theorem sizeN_le {m n : Nat} {part : Bool} (d : Nat) (h : n ≤ 2 ^ d) (hm : m ≤ n) : sizeN m n part ≤ d + 1 := by
  have := stepsN_le d m n h hm
  have h2 : (endP m n part).toNat ≤ 1 := by cases endP m n part <;> decide
  rw [sizeN]
  omega
def mayZ (m n : Int) : Bool := decide (0 ≤ n ∧ n ≤ 1099511627776 ∧ 0 ≤ m ∧ m ≤ n)
def proofZ (l : List (List UInt8)) (m : Int) : List Dg := if 1 ≤ m ∧ m ≤ (l.length : Int) then proofT l m.toNat false else []
end Go.Proofs.YtipaiielkpifoaaDoor
