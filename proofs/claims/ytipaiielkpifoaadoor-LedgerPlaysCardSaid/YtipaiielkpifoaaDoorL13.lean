/- Short numbers as bytes, in plain Lean. No condition. -/
import Derived.Test.YtipaiielkpifoaaDoorAb30
set_option linter.unusedVariables false
set_option linter.unusedSimpArgs false
namespace Go.Proofs.YtipaiielkpifoaaDoor
open Go Go.Ab

/-- A number in groups of seven bits, the lowest first. -/
def varB (v : Nat) : List UInt8 := if h : v < 128 then [UInt8.ofNat v] else UInt8.ofNat (v % 128 + 128) :: varB (v / 128)
termination_by v
decreasing_by omega
theorem varB_small {v : Nat} (h : v < 128) : varB v = [UInt8.ofNat v] := by rw [varB, dif_pos h]
theorem varB_big {v : Nat} (h : ¬ v < 128) : varB v = UInt8.ofNat (v % 128 + 128) :: varB (v / 128) := by rw [varB, dif_neg h]
theorem or128_nat : ∀ x, x < 256 → x ||| 128 = x % 128 + 128 := by decide +kernel
/-- byte(v) | 128 -/
theorem or128 (v : Nat) : ibit .or .u8 (IntKind.u8.wrap (v : Int)) 128 = ((UInt8.ofNat (v % 128 + 128)).toNat : Int) := by
  have h1 : (BitVec.ofInt 8 (IntKind.u8.wrap (v : Int))).toNat = v % 256 := by
    rw [BitVec.toNat_ofInt, IntKind.wrap_u8]
    omega
  have h2 : (BitVec.ofInt 8 (IntKind.u8.wrap (v : Int)) ||| BitVec.ofInt 8 128).toNat = v % 128 + 128 := by
    rw [BitVec.toNat_or, h1, show (BitVec.ofInt 8 128).toNat = 128 by decide, or128_nat _ (by omega)]
    omega
  show IntKind.u8.wrap ((BitVec.ofInt 8 (IntKind.u8.wrap (v : Int)) ||| BitVec.ofInt 8 128).toNat : Int) = _
  rw [h2, IntKind.wrap_u8, UInt8.toNat_ofNat']
  omega
theorem or128' (v : Nat) : ibit .or .u8 ((UInt8.ofNat v).toNat : Int) 128 = ((UInt8.ofNat (v % 128 + 128)).toNat : Int) := by
  rw [← or128 v]
  congr 1
theorem varB_pos : ∀ v, 0 < (varB v).length := by
  intro v
  by_cases h : v < 128
  · rw [varB_small h]; exact Nat.zero_lt_one
  · rw [varB_big h]; simp
theorem div_pow (v i : Nat) : v / 128 ^ (i + 1) = v / 128 / 128 ^ i := by rw [Nat.pow_succ, Nat.mul_comm, Nat.div_div_eq_div_mul]
theorem varB_at : ∀ (i v : Nat), i ≤ (varB v).length - 1 → 128 ≤ v / 128 ^ i → i < (varB v).length - 1 ∧ (varB v).take (i + 1) = (varB v).take i ++ [UInt8.ofNat (v / 128 ^ i % 128 + 128)]
  | 0, v, _, h => by
    rw [Nat.pow_zero, Nat.div_one] at h
    have := varB_pos (v / 128)
    rw [varB_big (by omega)]
    simp
    omega
  | i + 1, v, hi, h => by
    rw [div_pow] at h
    by_cases hv : v < 128
    · rw [varB_small hv] at hi
      simp at hi
    · rw [varB_big hv] at hi ⊢
      simp only [List.length_cons] at hi ⊢
      obtain ⟨h1, h2⟩ := varB_at i (v / 128) (by omega) h
      refine ⟨by omega, ?_⟩
      rw [List.take_succ_cons, h2, div_pow]
      rfl
theorem varB_last : ∀ (i v : Nat), i ≤ (varB v).length - 1 → v / 128 ^ i < 128 → varB v = (varB v).take i ++ [UInt8.ofNat (v / 128 ^ i)]
  | 0, v, _, h => by
    rw [Nat.pow_zero, Nat.div_one] at h ⊢
    rw [varB_small h]
    rfl
  | i + 1, v, hi, h => by
    rw [div_pow] at h
    by_cases hv : v < 128
    · rw [varB_small hv] at hi
      simp at hi
    · rw [varB_big hv] at hi ⊢
      simp only [List.length_cons] at hi
      rw [List.take_succ_cons, div_pow]
      have := varB_last i (v / 128) (by omega) h
      rw [List.cons_append, ← this]
theorem varB_len : ∀ v, v < 18446744073709551616 → (varB v).length ≤ 10 := by
  have key : ∀ (n v : Nat), v < 128 ^ (n + 1) → (varB v).length ≤ n + 1 := by
    intro n
    induction n with
    | zero =>
      intro v hv
      rw [varB_small (by simpa using hv)]
      simp
    | succ n ih =>
      intro v hv
      by_cases h : v < 128
      · rw [varB_small h]; simp
      · rw [varB_big h, List.length_cons]
        have := ih (v / 128) (by rw [Nat.div_lt_iff_lt_mul (by decide), ← Nat.pow_succ]; exact hv)
        omega
  intro v hv
  exact key 9 v (by omega)
end Go.Proofs.YtipaiielkpifoaaDoor
