/- Forms of values, schemas and rows as bytes, in plain Lean. No condition. -/
import Derived.Test.YteoofihjmldllaaDoorV4
import Derived.Test.YteoofihjmldllaaDoorAb30
set_option linter.unusedVariables false
set_option linter.unusedSimpArgs false
namespace Go.Proofs.YteoofihjmldllaaDoor
open Go Go.Ab

/-- A number in groups of seven bits, the lowest first. -/
def varB (v : Nat) : List UInt8 := if h : v < 128 then [UInt8.ofNat v] else UInt8.ofNat (v % 128 + 128) :: varB (v / 128)
termination_by v
decreasing_by omega
def zigN (n : Int) : Nat := if 0 ≤ n then 2 * n.toNat else 2 * (-(n + 1)).toNat + 1

def putB (a : Val) : List UInt8 := byteI a.kind :: (if a.kind = 1 then varB (zigN a.n) else if a.kind = 2 then varB a.s.size ++ a.s.data.toList else [])
theorem zigN_lt {n : Int} (h1 : -9223372036854775808 ≤ n) (h2 : n ≤ 9223372036854775807) : zigN n < 18446744073709551616 := by
  unfold zigN
  split <;> omega
theorem varB_small {v : Nat} (h : v < 128) : varB v = [UInt8.ofNat v] := by rw [varB, dif_pos h]
theorem varB_big {v : Nat} (h : ¬ v < 128) : varB v = UInt8.ofNat (v % 128 + 128) :: varB (v / 128) := by rw [varB, dif_neg h]

theorem or128_nat : ∀ x, x < 256 → x ||| 128 = x % 128 + 128 := by decide +kernel
/-- byte(v) | 128 -/
theorem or128 (v : Nat) : ibit .or .u8 (IntKind.u8.wrap (v : Int)) 128 = ((UInt8.ofNat (v % 128 + 128)).toNat : Int) := by
  have h1 : (BitVec.ofInt 8 (IntKind.u8.wrap (v : Int))).toNat = v % 256 := by
    rw [BitVec.toNat_ofInt, IntKind.wrap_u8]
    omega
  have h2 : (BitVec.ofInt 8 (IntKind.u8.wrap (v : Int)) ||| BitVec.ofInt 8 128).toNat = v % 128 + 128 := by
    rw [BitVec.toNat_or, h1, show (BitVec.ofInt 8 128).toNat = 128 by decide, or128_nat _ (by omega)]
    omega
  show IntKind.u8.wrap ((BitVec.ofInt 8 (IntKind.u8.wrap (v : Int)) ||| BitVec.ofInt 8 128).toNat : Int) = _
  rw [h2, IntKind.wrap_u8, UInt8.toNat_ofNat']
  omega
theorem or128' (v : Nat) : ibit .or .u8 ((UInt8.ofNat v).toNat : Int) 128 = ((UInt8.ofNat (v % 128 + 128)).toNat : Int) := by
  rw [← or128 v]
  congr 1
/-- uint64(n) << 1 ^ uint64(n >> 63) -/
theorem zig_u64 (n : Int) (h1 : -9223372036854775808 ≤ n) (h2 : n ≤ 9223372036854775807) :
    ibit .xor .u64 (IntKind.u64.wrap (IntKind.u64.wrap n * 2 ^ (min (1 : Int).toNat 64))) (IntKind.u64.wrap (n.fdiv (2 ^ (min (63 : Int).toNat 64)))) = (zigN n : Int) := by
  have e1 : (2 : Int) ^ (min (1 : Int).toNat 64) = 2 := by decide
  have e2 : (2 : Int) ^ (min (63 : Int).toNat 64) = 9223372036854775808 := by decide
  rw [e1, e2, Int.fdiv_eq_ediv_of_nonneg _ (by decide)]
  show IntKind.u64.wrap ((BitVec.ofInt 64 (IntKind.u64.wrap (IntKind.u64.wrap n * 2)) ^^^ BitVec.ofInt 64 (IntKind.u64.wrap (n / 9223372036854775808))).toNat : Int) = _
  unfold zigN
  by_cases h : 0 ≤ n
  · rw [if_pos h]
    have : n / 9223372036854775808 = 0 := Int.ediv_eq_zero_of_lt h (by omega)
    rw [this, show BitVec.ofInt 64 (IntKind.u64.wrap 0) = 0#64 by decide, BitVec.xor_zero, BitVec.toNat_ofInt, IntKind.wrap_u64, IntKind.wrap_u64, IntKind.wrap_u64]
    omega
  · rw [if_neg h]
    have : n / 9223372036854775808 = -1 := by omega
    rw [this, show BitVec.ofInt 64 (IntKind.u64.wrap (-1)) = BitVec.allOnes 64 by decide, BitVec.xor_allOnes, BitVec.toNat_not, BitVec.toNat_ofInt, IntKind.wrap_u64, IntKind.wrap_u64, IntKind.wrap_u64]
    omega
theorem varB_pos : ∀ v, 0 < (varB v).length := by
  intro v
  by_cases h : v < 128
  · rw [varB_small h]; exact Nat.zero_lt_one
  · rw [varB_big h]; simp
theorem div_pow (v i : Nat) : v / 128 ^ (i + 1) = v / 128 / 128 ^ i := by rw [Nat.pow_succ, Nat.mul_comm, Nat.div_div_eq_div_mul]
theorem varB_at : ∀ (i v : Nat), i ≤ (varB v).length - 1 → 128 ≤ v / 128 ^ i → i < (varB v).length - 1 ∧ (varB v).take (i + 1) = (varB v).take i ++ [UInt8.ofNat (v / 128 ^ i % 128 + 128)]
  | 0, v, _, h => by
    rw [Nat.pow_zero, Nat.div_one] at h
    have := varB_pos (v / 128)
    rw [varB_big (by omega)]
    simp
    omega
  | i + 1, v, hi, h => by
    rw [div_pow] at h
    by_cases hv : v < 128
    · rw [varB_small hv] at hi
      simp at hi
    · rw [varB_big hv] at hi ⊢
      simp only [List.length_cons] at hi ⊢
      obtain ⟨h1, h2⟩ := varB_at i (v / 128) (by omega) h
      refine ⟨by omega, ?_⟩
      rw [List.take_succ_cons, h2, div_pow]
      rfl
theorem varB_last : ∀ (i v : Nat), i ≤ (varB v).length - 1 → v / 128 ^ i < 128 → varB v = (varB v).take i ++ [UInt8.ofNat (v / 128 ^ i)]
  | 0, v, _, h => by
    rw [Nat.pow_zero, Nat.div_one] at h ⊢
    rw [varB_small h]
    rfl
  | i + 1, v, hi, h => by
    rw [div_pow] at h
    by_cases hv : v < 128
    · rw [varB_small hv] at hi
      simp at hi
    · rw [varB_big hv] at hi ⊢
      simp only [List.length_cons] at hi
      rw [List.take_succ_cons, div_pow]
      have := varB_last i (v / 128) (by omega) h
      rw [List.cons_append, ← this]
theorem varB_len : ∀ v, v < 18446744073709551616 → (varB v).length ≤ 10 := by
  have key : ∀ (n v : Nat), v < 128 ^ (n + 1) → (varB v).length ≤ n + 1 := by
    intro n
    induction n with
    | zero =>
      intro v hv
      rw [varB_small (by simpa using hv)]
      simp
    | succ n ih =>
      intro v hv
      by_cases h : v < 128
      · rw [varB_small h]; simp
      · rw [varB_big h, List.length_cons]
        have := ih (v / 128) (by rw [Nat.div_lt_iff_lt_mul (by decide), ← Nat.pow_succ]; exact hv)
        omega
  intro v hv
  exact key 9 v (by omega)
theorem bv_inj' {a b : UInt8} (h : (a.toNat : Int) = (b.toNat : Int)) : a = b := UInt8.toNat_inj.1 (by omega)
end Go.Proofs.YteoofihjmldllaaDoor
