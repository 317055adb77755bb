/- Proofs that leaves have grown, in plain Lean: the proof, how long it is, what it is put together to, whether it is one; a proof of what is so is one. No condition. -/
import Derived.Test.YtipaiielkpifoaaDoorS20
set_option linter.unusedVariables false
set_option linter.unusedSimpArgs false
set_option maxRecDepth 100000
namespace Go.Proofs.YtipaiielkpifoaaDoor
open Go Go.Ab

theorem spN_two {n k : Nat} (h : 2 ≤ n) (h1 : k = spN n) {m : Nat} (h2 : k < m) (h3 : m ≤ n) : spN m = k := by
  obtain ⟨s1, s2, s3⟩ := spN_spec h
  exact (spN_of (j := Nat.log2 (n - 1)) (by rw [h1, spN]) h2 (by omega)).symm
def stepsN (m n : Nat) : Nat :=
  if h : 2 ≤ n then if m = n then 0 else if m ≤ spN n then stepsN m (spN n) + 1 else stepsN (m - spN n) (n - spN n) + 1 else 0
termination_by n
decreasing_by all_goals (have := spN_spec h; omega)
def endP (m n : Nat) (part : Bool) : Bool :=
  if h : 2 ≤ n then if m = n then part else if m ≤ spN n then endP m (spN n) part else endP (m - spN n) (n - spN n) true else part
termination_by n
decreasing_by all_goals (have := spN_spec h; omega)
def putT (m n : Nat) (a : Dg) (p : List Dg) (part : Bool) : Dg × Dg :=
  if h : 2 ≤ n then
    if m = n then (if part then (p.getD 0 (shaD []), p.getD 0 (shaD [])) else (a, a))
    else if m ≤ spN n then
      ((putT m (spN n) a (p.take (p.length - 1)) part).1, nd (putT m (spN n) a (p.take (p.length - 1)) part).2 (p.getD (p.length - 1) (shaD [])))
    else (nd (p.getD (p.length - 1) (shaD [])) (putT (m - spN n) (n - spN n) a (p.take (p.length - 1)) true).1, nd (p.getD (p.length - 1) (shaD [])) (putT (m - spN n) (n - spN n) a (p.take (p.length - 1)) true).2)
  else (if part then (p.getD 0 (shaD []), p.getD 0 (shaD [])) else (a, a))
termination_by n
decreasing_by all_goals (have := spN_spec h; omega)
/-- The document's: also whether the proof is of the right length. -/
def putR (m n : Nat) (a : Dg) (p : List Dg) (part : Bool) : Dg × Dg × Bool :=
  if h : 2 ≤ n ∧ m ≠ n then
    if p.length = 0 then (zeroD, zeroD, false)
    else if m ≤ spN n then
      ((putR m (spN n) a (p.take (p.length - 1)) part).1, nd (putR m (spN n) a (p.take (p.length - 1)) part).2.1 (p.getD (p.length - 1) (shaD [])), (putR m (spN n) a (p.take (p.length - 1)) part).2.2)
    else (nd (p.getD (p.length - 1) (shaD [])) (putR (m - spN n) (n - spN n) a (p.take (p.length - 1)) true).1, nd (p.getD (p.length - 1) (shaD [])) (putR (m - spN n) (n - spN n) a (p.take (p.length - 1)) true).2.1, (putR (m - spN n) (n - spN n) a (p.take (p.length - 1)) true).2.2)
  else if part then (if p.length = 1 then (p.getD 0 (shaD []), p.getD 0 (shaD []), true) else (zeroD, zeroD, false)) else (a, a, decide (p.length = 0))
termination_by n
decreasing_by all_goals (have := spN_spec h.1; omega)
def sizeN (m n : Nat) (part : Bool) : Nat := stepsN m n + (endP m n part).toNat

section
variable {m n : Nat} {part : Bool} {a : Dg} {p : List Dg} {l : List (List UInt8)}
theorem stepsN_eq : stepsN n n = 0 := by
  rw [stepsN]
  by_cases h : 2 ≤ n
  · rw [dif_pos h, if_pos rfl]
  · rw [dif_neg h]
theorem stepsN_l (h : 2 ≤ n) (hm : m ≤ spN n) : stepsN m n = stepsN m (spN n) + 1 := by
  have := spN_spec h
  rw [stepsN, dif_pos h, if_neg (by omega), if_pos hm]
theorem stepsN_r (h : 2 ≤ n) (hmn : m < n) (hm : ¬ m ≤ spN n) : stepsN m n = stepsN (m - spN n) (n - spN n) + 1 := by
  rw [stepsN, dif_pos h, if_neg (by omega), if_neg hm]
theorem endP_eq : endP n n part = part := by
  rw [endP]
  by_cases h : 2 ≤ n
  · rw [dif_pos h, if_pos rfl]
  · rw [dif_neg h]
theorem endP_l (h : 2 ≤ n) (hm : m ≤ spN n) : endP m n part = endP m (spN n) part := by
  have := spN_spec h
  rw [endP, dif_pos h, if_neg (by omega), if_pos hm]
theorem endP_r (h : 2 ≤ n) (hmn : m < n) (hm : ¬ m ≤ spN n) : endP m n part = endP (m - spN n) (n - spN n) true := by
  rw [endP, dif_pos h, if_neg (by omega), if_neg hm]
theorem sizeN_eq : sizeN n n part = part.toNat := by rw [sizeN, stepsN_eq, endP_eq, Nat.zero_add]
theorem sizeN_l (h : 2 ≤ n) (hm : m ≤ spN n) : sizeN m n part = sizeN m (spN n) part + 1 := by
  rw [sizeN, sizeN, stepsN_l h hm, endP_l h hm]; omega
theorem sizeN_r (h : 2 ≤ n) (hmn : m < n) (hm : ¬ m ≤ spN n) : sizeN m n part = sizeN (m - spN n) (n - spN n) true + 1 := by
  rw [sizeN, sizeN, stepsN_r h hmn hm, endP_r h hmn hm]; omega
theorem putT_eq : putT n n a p part = if part then (p.getD 0 (shaD []), p.getD 0 (shaD [])) else (a, a) := by
  rw [putT]
  by_cases h : 2 ≤ n
  · rw [dif_pos h, if_pos rfl]
  · rw [dif_neg h]
theorem putT_l (h : 2 ≤ n) (hm : m ≤ spN n) : putT m n a p part = ((putT m (spN n) a (p.take (p.length - 1)) part).1, nd (putT m (spN n) a (p.take (p.length - 1)) part).2 (p.getD (p.length - 1) (shaD []))) := by
  have := spN_spec h
  rw [putT, dif_pos h, if_neg (by omega), if_pos hm]
theorem putT_r (h : 2 ≤ n) (hmn : m < n) (hm : ¬ m ≤ spN n) : putT m n a p part = (nd (p.getD (p.length - 1) (shaD [])) (putT (m - spN n) (n - spN n) a (p.take (p.length - 1)) true).1, nd (p.getD (p.length - 1) (shaD [])) (putT (m - spN n) (n - spN n) a (p.take (p.length - 1)) true).2) := by
  rw [putT, dif_pos h, if_neg (by omega), if_neg hm]
theorem putR_eq : putR n n a p part = if part then (if p.length = 1 then (p.getD 0 (shaD []), p.getD 0 (shaD []), true) else (zeroD, zeroD, false)) else (a, a, decide (p.length = 0)) := by
  rw [putR, dif_neg (fun h => h.2 rfl)]
theorem putR_0 (h : 2 ≤ n) (hmn : m ≠ n) (hp : p.length = 0) : putR m n a p part = (zeroD, zeroD, false) := by rw [putR, dif_pos ⟨h, hmn⟩, if_pos hp]
theorem putR_l (h : 2 ≤ n) (hm : m ≤ spN n) (hp : ¬ p.length = 0) : putR m n a p part = ((putR m (spN n) a (p.take (p.length - 1)) part).1, nd (putR m (spN n) a (p.take (p.length - 1)) part).2.1 (p.getD (p.length - 1) (shaD [])), (putR m (spN n) a (p.take (p.length - 1)) part).2.2) := by
  have := spN_spec h
  rw [putR, dif_pos ⟨h, by omega⟩, if_neg hp, if_pos hm]
theorem putR_r (h : 2 ≤ n) (hmn : m < n) (hm : ¬ m ≤ spN n) (hp : ¬ p.length = 0) : putR m n a p part = (nd (p.getD (p.length - 1) (shaD [])) (putR (m - spN n) (n - spN n) a (p.take (p.length - 1)) true).1, nd (p.getD (p.length - 1) (shaD [])) (putR (m - spN n) (n - spN n) a (p.take (p.length - 1)) true).2.1, (putR (m - spN n) (n - spN n) a (p.take (p.length - 1)) true).2.2) := by
  rw [putR, dif_pos ⟨h, by omega⟩, if_neg hp, if_neg hm]
end

/-- The document's answer and the code's. -/
theorem putR_putT (a : Dg) : ∀ (N m n : Nat) (p : List Dg) (part : Bool), n < N → 1 ≤ m → m ≤ n → (putR m n a p part).2.2 = decide (p.length = sizeN m n part) ∧ (p.length = sizeN m n part → (putR m n a p part).1 = (putT m n a p part).1 ∧ (putR m n a p part).2.1 = (putT m n a p part).2)
  | 0, m, n, p, part, h, _, _ => by omega
  | N + 1, m, n, p, part, h, h1, h2 => by
    rcases Nat.eq_or_lt_of_le h2 with e | e
    · subst e
      rw [putR_eq, putT_eq, sizeN_eq]
      cases part with
      | false => simp
      | true =>
        by_cases hp : p.length = 1
        · simp [hp]
        · simp [hp]
    · have hn : 2 ≤ n := by omega
      obtain ⟨s1, s2, s3⟩ := spN_spec hn
      have ht : (p.take (p.length - 1)).length = p.length - 1 := by rw [List.length_take]; omega
      by_cases hp : p.length = 0
      · rw [putR_0 hn (by omega) hp]
        have hs : ¬ p.length = sizeN m n part := by
          by_cases hm : m ≤ spN n
          · rw [sizeN_l hn hm]; omega
          · rw [sizeN_r hn e hm]; omega
        exact ⟨(decide_eq_false hs).symm, fun h => absurd h hs⟩
      · by_cases hm : m ≤ spN n
        · obtain ⟨i1, i2⟩ := putR_putT a N m (spN n) (p.take (p.length - 1)) part (by omega) h1 hm
          rw [putR_l hn hm hp, putT_l hn hm, sizeN_l hn hm]
          refine ⟨i1.trans (by rw [ht]; congr 1; rw [eq_iff_iff]; omega), fun hl => ?_⟩
          obtain ⟨j1, j2⟩ := i2 (by omega)
          exact ⟨j1, by rw [j2]⟩
        · obtain ⟨i1, i2⟩ := putR_putT a N (m - spN n) (n - spN n) (p.take (p.length - 1)) true (by omega) (by omega) (by omega)
          rw [putR_r hn e hm hp, putT_r hn e hm, sizeN_r hn e hm]
          refine ⟨i1.trans (by rw [ht]; congr 1; rw [eq_iff_iff]; omega), fun hl => ?_⟩
          obtain ⟨j1, j2⟩ := i2 (by omega)
          exact ⟨by rw [j1], by rw [j2]⟩
theorem stepsN_le : ∀ (d m n : Nat), n ≤ 2 ^ d → m ≤ n → stepsN m n ≤ d
  | d, m, n, h, hm => by
    by_cases h2 : 2 ≤ n
    · obtain ⟨s1, s2, s3⟩ := spN_spec h2
      cases d with
      | zero => simp at h; omega
      | succ d =>
        have hk : spN n ≤ 2 ^ d := by
          have hlt : Nat.log2 (n - 1) < d + 1 := (Nat.log2_lt (by omega)).2 (by omega)
          exact Nat.pow_le_pow_right (by omega) (by omega)
        rcases Nat.eq_or_lt_of_le hm with e | e
        · rw [e, stepsN_eq]; omega
        · by_cases hmk : m ≤ spN n
          · rw [stepsN_l h2 hmk]
            have := stepsN_le d m (spN n) hk hmk
            omega
          · rw [stepsN_r h2 e hmk]
            have := stepsN_le d (m - spN n) (n - spN n) (by omega) (by omega)
            omega
    · rw [stepsN, dif_neg h2]; omega
theorem sizeN_le {m n : Nat} {part : Bool} (d : Nat) (h : n ≤ 2 ^ d) (hm : m ≤ n) : sizeN m n part ≤ d + 1 := by
  have := stepsN_le d m n h hm
  have h2 : (endP m n part).toNat ≤ 1 := by cases endP m n part <;> decide
  rw [sizeN]
  omega
def mayZ (m n : Int) : Bool := decide (0 ≤ n ∧ n ≤ 1099511627776 ∧ 0 ≤ m ∧ m ≤ n)
def sizeZ (m n : Int) : Int := if mayZ m n then (if m = 0 then 0 else (sizeN m.toNat n.toNat false : Int)) else -1
def checkZ (m n : Int) (a b : Dg) (p : List Dg) : Bool :=
  if mayZ m n then (if m = 0 then decide (p.length = 0 ∧ a = shaD []) else decide (p.length = sizeN m.toNat n.toNat false ∧ putT m.toNat n.toNat a p false = (a, b))) else false
end Go.Proofs.YtipaiielkpifoaaDoor
