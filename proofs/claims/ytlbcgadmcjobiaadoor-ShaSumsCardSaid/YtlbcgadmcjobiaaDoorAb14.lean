/- Abstract states over the model, part 14: words of 32 bits and bytes. No condition; over any program. -/
import Derived.Test.YtlbcgadmcjobiaaDoorAb13
set_option linter.unusedVariables false
set_option linter.unusedSimpArgs false
namespace Go.Ab
open Go.RowKit

abbrev W32 := BitVec 32
def wv (x : W32) : Value := .int .u32 (x.toNat : Int)
def bv (b : UInt8) : Value := .int .u8 (b.toNat : Int)

theorem ofInt32 (a : W32) : BitVec.ofInt 32 (a.toNat : Int) = a := by rw [BitVec.ofInt_natCast, BitVec.ofNat_toNat, BitVec.setWidth_eq]
theorem wrap32_nat (n : Nat) : IntKind.u32.wrap (n : Int) = ((n % 4294967296 : Nat) : Int) := by rw [IntKind.wrap_u32]; omega
theorem wrap32_lt (a : W32) : IntKind.u32.wrap (a.toNat : Int) = (a.toNat : Int) := by
  have := a.isLt
  rw [IntKind.wrap_u32]; omega

theorem w_and (a b : W32) : ibit .and .u32 (a.toNat : Int) (b.toNat : Int) = ((a &&& b).toNat : Int) := by
  show IntKind.u32.wrap ((BitVec.ofInt 32 (a.toNat : Int) &&& BitVec.ofInt 32 (b.toNat : Int)).toNat : Int) = _
  rw [ofInt32, ofInt32, wrap32_lt]
theorem w_or (a b : W32) : ibit .or .u32 (a.toNat : Int) (b.toNat : Int) = ((a ||| b).toNat : Int) := by
  show IntKind.u32.wrap ((BitVec.ofInt 32 (a.toNat : Int) ||| BitVec.ofInt 32 (b.toNat : Int)).toNat : Int) = _
  rw [ofInt32, ofInt32, wrap32_lt]
theorem w_xor (a b : W32) : ibit .xor .u32 (a.toNat : Int) (b.toNat : Int) = ((a ^^^ b).toNat : Int) := by
  show IntKind.u32.wrap ((BitVec.ofInt 32 (a.toNat : Int) ^^^ BitVec.ofInt 32 (b.toNat : Int)).toNat : Int) = _
  rw [ofInt32, ofInt32, wrap32_lt]
theorem w_add (a b : W32) : IntKind.u32.wrap ((a.toNat : Int) + (b.toNat : Int)) = ((a + b).toNat : Int) := by
  rw [BitVec.toNat_add, ← Int.natCast_add, wrap32_nat]
theorem w_sub (a b : W32) : IntKind.u32.wrap ((a.toNat : Int) - (b.toNat : Int)) = ((a - b).toNat : Int) := by
  have h1 := a.isLt
  have h2 := b.isLt
  rw [BitVec.toNat_sub, IntKind.wrap_u32]
  omega
theorem w_mul (a b : W32) : IntKind.u32.wrap ((a.toNat : Int) * (b.toNat : Int)) = ((a * b).toNat : Int) := by
  rw [BitVec.toNat_mul, ← Int.natCast_mul, wrap32_nat]
theorem w_not (a : W32) : ibit .xor .u32 (if IntKind.u32.signed then -1 else IntKind.u32.max) (a.toNat : Int) = ((~~~a).toNat : Int) := by
  have e : (if IntKind.u32.signed then (-1 : Int) else IntKind.u32.max) = ((BitVec.allOnes 32).toNat : Int) := by decide
  rw [e, w_xor, BitVec.allOnes_xor]
theorem w_shr (a : W32) (n : Nat) (hn : n ≤ 32) : (a.toNat : Int).fdiv (2 ^ (min n 32)) = ((a >>> n).toNat : Int) := by
  rw [Nat.min_eq_left hn, BitVec.toNat_ushiftRight, Nat.shiftRight_eq_div_pow, Int.fdiv_eq_ediv_of_nonneg _ (by exact Int.pow_nonneg (by decide))]
  norm_cast
theorem w_shl (a : W32) (n : Nat) (hn : n ≤ 32) : IntKind.u32.wrap ((a.toNat : Int) * 2 ^ (min n 32)) = ((a <<< n).toNat : Int) := by
  rw [Nat.min_eq_left hn, BitVec.toNat_shiftLeft, Nat.shiftLeft_eq]
  have : ((a.toNat : Int) * 2 ^ n) = ((a.toNat * 2 ^ n : Nat) : Int) := by norm_cast
  rw [this, wrap32_nat]

section
variable {P : Program} {NG : Nat} {fr : Fr} {H : Hp} {nk : Nat} {R : Value → Hp → Nat → Prop} {o : Oper} {t t' : TypeId} {x y : Operand} {a b : W32}
theorem AOp.wadd (ho : o.op = .binOp .add t x y t') (hx : aeval NG fr x = some (wv a)) (hy : aeval NG fr y = some (wv b)) (hR : R (wv (a + b)) H nk) : AOp P NG o ⟨fr, H, nk⟩ R :=
  AOp.bin' ho hx hy (z := wv (a + b)) (by simp [abin, wv, w_add]) hR
theorem AOp.wsub (ho : o.op = .binOp .sub t x y t') (hx : aeval NG fr x = some (wv a)) (hy : aeval NG fr y = some (wv b)) (hR : R (wv (a - b)) H nk) : AOp P NG o ⟨fr, H, nk⟩ R :=
  AOp.bin' ho hx hy (z := wv (a - b)) (by simp only [abin, wv, w_sub]; simp) hR
theorem AOp.wmul (ho : o.op = .binOp .mul t x y t') (hx : aeval NG fr x = some (wv a)) (hy : aeval NG fr y = some (wv b)) (hR : R (wv (a * b)) H nk) : AOp P NG o ⟨fr, H, nk⟩ R :=
  AOp.bin' ho hx hy (z := wv (a * b)) (by simp only [abin, wv, w_mul]; simp) hR
theorem AOp.wand (ho : o.op = .binOp .and t x y t') (hx : aeval NG fr x = some (wv a)) (hy : aeval NG fr y = some (wv b)) (hR : R (wv (a &&& b)) H nk) : AOp P NG o ⟨fr, H, nk⟩ R :=
  AOp.bin' ho hx hy (z := wv (a &&& b)) (by simp only [abin, wv, w_and]; simp) hR
theorem AOp.wor (ho : o.op = .binOp .or t x y t') (hx : aeval NG fr x = some (wv a)) (hy : aeval NG fr y = some (wv b)) (hR : R (wv (a ||| b)) H nk) : AOp P NG o ⟨fr, H, nk⟩ R :=
  AOp.bin' ho hx hy (z := wv (a ||| b)) (by simp only [abin, wv, w_or]; simp) hR
theorem AOp.wxor (ho : o.op = .binOp .xor t x y t') (hx : aeval NG fr x = some (wv a)) (hy : aeval NG fr y = some (wv b)) (hR : R (wv (a ^^^ b)) H nk) : AOp P NG o ⟨fr, H, nk⟩ R :=
  AOp.bin' ho hx hy (z := wv (a ^^^ b)) (by simp only [abin, wv, w_xor]; simp) hR
theorem AOp.wnot (ho : o.op = .unOp .xor t x) (hx : aeval NG fr x = some (wv a)) (hR : R (wv (~~~a)) H nk) : AOp P NG o ⟨fr, H, nk⟩ R :=
  AOp.un' ho hx (z := wv (~~~a)) (by simp only [aun, wv, w_not]) hR
theorem AOp.wshr {n : Nat} {k : IntKind} (ho : o.op = .binOp .shr t x y t') (hx : aeval NG fr x = some (wv a)) (hy : aeval NG fr y = some (.int k (n : Int))) (hn : n ≤ 32) (hR : R (wv (a >>> n)) H nk) : AOp P NG o ⟨fr, H, nk⟩ R :=
  AOp.bin' ho hx hy (z := wv (a >>> n)) (by
    have h0 : ¬ ((n : Int) < 0) := by omega
    simp only [abin, wv, if_neg h0, Int.toNat_natCast]
    rw [show IntKind.u32.bits = 32 from rfl, w_shr a n hn]) hR
theorem AOp.wshl {n : Nat} {k : IntKind} (ho : o.op = .binOp .shl t x y t') (hx : aeval NG fr x = some (wv a)) (hy : aeval NG fr y = some (.int k (n : Int))) (hn : n ≤ 32) (hR : R (wv (a <<< n)) H nk) : AOp P NG o ⟨fr, H, nk⟩ R :=
  AOp.bin' ho hx hy (z := wv (a <<< n)) (by
    have h0 : ¬ ((n : Int) < 0) := by omega
    simp only [abin, wv, if_neg h0, Int.toNat_natCast]
    rw [show IntKind.u32.bits = 32 from rfl, w_shl a n hn]) hR
/-- A byte as a word. -/
theorem AOp.wofByte {d : TypeDesc} {c : UInt8} (ho : o.op = .convert t t' x) [DescInfo P t d] [DescInfo P t' (.int .u32)] (hx : aeval NG fr x = some (bv c)) (hR : R (wv (BitVec.ofNat 32 c.toNat)) H nk) : AOp P NG o ⟨fr, H, nk⟩ R := by
  refine AOp.convInt ho hx ?_
  have : (Value.int .u32 (IntKind.u32.wrap (c.toNat : Int))) = wv (BitVec.ofNat 32 c.toNat) := by
    unfold wv
    rw [BitVec.toNat_ofNat, wrap32_nat]
  rw [this]
  exact hR
/-- A word's lowest byte. -/
theorem AOp.wtoByte {d : TypeDesc} (ho : o.op = .convert t t' x) [DescInfo P t d] [DescInfo P t' (.int .u8)] (hx : aeval NG fr x = some (wv a)) (hR : R (bv (UInt8.ofNat a.toNat)) H nk) : AOp P NG o ⟨fr, H, nk⟩ R := by
  refine AOp.convInt ho hx ?_
  have : (Value.int .u8 (IntKind.u8.wrap (a.toNat : Int))) = bv (UInt8.ofNat a.toNat) := by
    unfold bv
    rw [IntKind.wrap_u8, UInt8.toNat_ofNat']
    congr 1
  rw [this]
  exact hR
end

theorem bv_cells (l : List UInt8) (i : Nat) (h : i < l.length) : (l.map bv)[i]? = some (bv (l.getD i 0)) := by
  rw [List.getElem?_map, List.getElem?_eq_getElem h, List.getD_eq_getElem?_getD, List.getElem?_eq_getElem h]
  rfl
theorem wv_cells (l : List W32) (i : Nat) (h : i < l.length) : (l.map wv)[i]? = some (wv (l.getD i 0)) := by
  rw [List.getElem?_map, List.getElem?_eq_getElem h, List.getD_eq_getElem?_getD, List.getElem?_eq_getElem h]
  rfl
end Go.Ab
