/- Contracts over the abstract states: rows as bytes. -/
import Derived.Test.YteoofihjmldllaaDoorV10
import Derived.Test.YteoofihjmldllaaDoorV8
set_option linter.unusedVariables false
set_option linter.unusedSimpArgs false
set_option maxRecDepth 100000
namespace Go.Proofs.YteoofihjmldllaaDoor
open Go Go.Ab

section
variable (NG : Nat) (H : Hp) (k : Nat)
theorem getD_mem {α : Type} {l : List α} {d : α} {i : Nat} (h : i < l.length) : l.getD i d ∈ l := by
 rw [getD_el h]; exact List.getElem_mem _
end

end Go.Proofs.YteoofihjmldllaaDoor

/- More rules over the abstract states for readers: nil pointers and nil interfaces, cuts of bytes, results of a cell and a number; bits of 64; what a reader's call leaves. No condition. -/
set_option linter.unusedVariables false
set_option linter.unusedSimpArgs false
set_option maxRecDepth 100000
namespace Go.Ab
open Go.RowKit
section
variable {P : Program} {NG : Nat} {o : Oper} {fr : Fr} {H : Hp} {nk : Nat} {R : Value → Hp → Nat → Prop}
theorem rdNilP_run {w : World} {t e : TypeId} {ad : Addr} (d : Nat) (hu : P.underlying t = some (.pointer e)) : (Op.equalIn (d + 1) t (.pointer (some ad)) (.pointer none)).run P w = .ok false w := by
 rw [Op.equalIn, Sem.run_bind, run_underlying hu]
 rfl
theorem rdNil_ptr {N B : Nat} {w0 w : World} {G : GMap} {a : Act} {x : Operand} {n off : Nat} {sp : Option Nat} (hs1 : StRel NG N B w0 G ⟨fr, H, nk⟩ a w) (hx : aeval NG fr x = some (.pointer (some ⟨n, off, sp⟩))) : ∃ ad, a.eval x = .pointer (some ad) := by
 have hp := aeval_rel hs1 hx
 generalize a.eval x = p at hp
 cases hp with
 | plain h => simp [isPlain] at h
 | ptr hg => exact ⟨_, rfl⟩
 | gptr hg h1 h2 => exact ⟨_, rfl⟩
theorem AOp.rdEqP {t t' e : TypeId} {x y : Operand} {n off : Nat} {sp : Option Nat} (ho : o.op = .binOp .eql t x y t') [hd : DescInfo P t (.pointer e)] (hx : aeval NG fr x = some (.pointer (some ⟨n, off, sp⟩))) (hy : aeval NG fr y = some (.pointer none))
  (hR : R (.bool false) H nk) : AOp P NG o ⟨fr, H, nk⟩ R := by
 refine AOp.quiet _ hR fun N B w0 G a w hs1 => ⟨.bool false, ?_, .plain rfl⟩
 have hq := (aeval_rel hs1 hy).plain_ rfl
 obtain ⟨ad, hA⟩ := rdNil_ptr hs1 hx
 have h1 := rdNilP_run (P := P) (w := w) (t := t) (ad := ad) 9999 hd.h
 have h2 : (eqGuard .eql t x y (.pointer (some ad)) (.pointer none)).run P w = .ok () w := by simp [eqGuard]
 have h3 : (binOp .eql t (.pointer (some ad)) (.pointer none)).run P w = .ok (.bool false) w := by
  simp only [binOp]
  simp [Op.equal, Op.maxDepth, h1]
 simp only [execOp, ho, hA, hq]
 rw [Sem.run_bind, Sem.run_bind, h2]
 simp only [Result.andThen_ok, h3]
 rfl
theorem AOp.rdNeP {t t' e : TypeId} {x y : Operand} {n off : Nat} {sp : Option Nat} (ho : o.op = .binOp .neq t x y t') [hd : DescInfo P t (.pointer e)] (hx : aeval NG fr x = some (.pointer (some ⟨n, off, sp⟩))) (hy : aeval NG fr y = some (.pointer none))
  (hR : R (.bool true) H nk) : AOp P NG o ⟨fr, H, nk⟩ R := by
 refine AOp.quiet _ hR fun N B w0 G a w hs1 => ⟨.bool true, ?_, .plain rfl⟩
 have hq := (aeval_rel hs1 hy).plain_ rfl
 obtain ⟨ad, hA⟩ := rdNil_ptr hs1 hx
 have h1 := rdNilP_run (P := P) (w := w) (t := t) (ad := ad) 9999 hd.h
 have h2 : (eqGuard .neq t x y (.pointer (some ad)) (.pointer none)).run P w = .ok () w := by simp [eqGuard]
 have h3 : (binOp .neq t (.pointer (some ad)) (.pointer none)).run P w = .ok (.bool true) w := by
  simp only [binOp]
  simp [Op.equal, Op.maxDepth, h1]
 simp only [execOp, ho, hA, hq]
 rw [Sem.run_bind, Sem.run_bind, h2]
 simp only [Result.andThen_ok, h3]
 rfl
/-- An interface that holds something is not nil. -/
theorem AOp.rdEqI {t t' t1 : TypeId} {x y : Operand} {v : Value} {ms : Array (String × TypeId)} (ho : o.op = .binOp .eql t x y t') [hd : DescInfo P t (.interface ms)] (hx : aeval NG fr x = some (.iface t1 v)) (hy : aeval NG fr y = some .nilIface)
  (hR : R (.bool false) H nk) : AOp P NG o ⟨fr, H, nk⟩ R := by
 refine AOp.quiet _ hR fun N B w0 G a w hs1 => ⟨.bool false, ?_, .plain rfl⟩
 have hp := aeval_rel hs1 hx
 have hq := (aeval_rel hs1 hy).plain_ rfl
 obtain ⟨v', hA⟩ : ∃ v', a.eval x = .iface t1 v' := by
  generalize a.eval x = p at hp
  cases hp with
  | plain h => exact ⟨_, rfl⟩
  | iface h => exact ⟨_, rfl⟩
 have h1 : (Op.equalIn (9999 + 1) t (.iface t1 v') .nilIface).run P w = .ok false w := by
  rw [Op.equalIn, Sem.run_bind, run_underlying hd.h]
  rfl
 have h2 : (eqGuard .eql t x y (.iface t1 v') .nilIface).run P w = .ok () w := by simp [eqGuard]
 have h3 : (binOp .eql t (.iface t1 v') .nilIface).run P w = .ok (.bool false) w := by
  simp only [binOp]
  simp [Op.equal, Op.maxDepth, h1]
 simp only [execOp, ho, hA, hq]
 rw [Sem.run_bind, Sem.run_bind, h2]
 simp only [Result.andThen_ok, h3]
 rfl
theorem AOp.rdEqI0 {t t' : TypeId} {x : Operand} {ms : Array (String × TypeId)} (ho : o.op = .binOp .eql t x (.const .nilIface) t') [hd : DescInfo P t (.interface ms)] (hx : aeval NG fr x = some .nilIface)
  (hR : R (.bool true) H nk) : AOp P NG o ⟨fr, H, nk⟩ R := by
 refine AOp.quiet _ hR fun N B w0 G a w hs1 => ⟨.bool true, ?_, .plain rfl⟩
 have hp := (aeval_rel hs1 hx).plain_ rfl
 have h1 : (Op.equalIn (9999 + 1) t .nilIface .nilIface).run P w = .ok true w := by
  rw [Op.equalIn, Sem.run_bind, run_underlying hd.h]
  rfl
 have h2 : (eqGuard .eql t x (.const .nilIface) .nilIface .nilIface).run P w = .ok () w := by simp [eqGuard]
 have h3 : (binOp .eql t .nilIface .nilIface).run P w = .ok (.bool true) w := by
  simp only [binOp]
  simp [Op.equal, Op.maxDepth, h1]
 simp only [execOp, ho, hp]
 rw [Sem.run_bind, Sem.run_bind, show a.eval (.const .nilIface) = .nilIface from rfl, h2]
 simp only [Result.andThen_ok, h3]
 rfl
end
theorem RetQ.cellTmpR {P : Program} {fn : Func} {H H'' : Hp} {k t ty t' : Nat} {R : Value → Hp → Nat → Prop} {fr : Fr} {H' : Hp} {k' : Nat} {p v v' : Value} (hr : fn.results = #[.cell t ty, .tmp t']) (hp : fr t = some p) (hv : aloadVar P H' ty p = some v) (hv' : fr t' = some v') (hs : Sub H'' H') (hst : ∀ n b, H n = some b → ∃ b', H'' n = some b') (hR : k ≤ k' → R (.tuple #[v, v']) H'' k') :
  RetQ P fn H k R .ret ⟨fr, H', k'⟩ := by
 intro hk
 refine ⟨[v, v'], H'', ?_, hs, hst, hR hk⟩
 rw [hr]
 simp [aresults, aresult, hp, hv, hv']
theorem RetQ.three {P : Program} {fn : Func} {H H'' : Hp} {k t t' t2 : Nat} {R : Value → Hp → Nat → Prop} {fr : Fr} {H' : Hp} {k' : Nat} {v v' v2 : Value} (hr : fn.results = #[.tmp t, .tmp t', .tmp t2]) (hv : fr t = some v) (hv' : fr t' = some v') (hv2 : fr t2 = some v2) (hs : Sub H'' H') (hst : ∀ n b, H n = some b → ∃ b', H'' n = some b') (hR : k ≤ k' → R (.tuple #[v, v', v2]) H'' k') :
  RetQ P fn H k R .ret ⟨fr, H', k'⟩ := by
 intro hk
 refine ⟨[v, v', v2], H'', ?_, hs, hst, hR hk⟩
 rw [hr]
 simp [aresults, aresult, hv, hv', hv2]
end Go.Ab
namespace Go.Proofs.YteoofihjmldllaaDoor
open Go Go.Ab
instance rdErrDesc : DescInfo Tryd.prog 90 (.interface #[("Error", 215)]) := ⟨by kernel_rfl⟩
theorem SLC.cutB {H : Hp} {c0 : Nat} {A0 : Option Addr} {bs : List UInt8} (hS : SLC H 1 A0 bs.length c0 (bs.map bv)) (l h : Nat) (h1 : l ≤ h) (h2 : h ≤ bs.length) :
  ∃ A c, aslice H 1 l h none (.slice A0 bs.length c0) = some (.slice A ((bs.drop l).take (h - l)).length c) ∧ SLC H 1 A ((bs.drop l).take (h - l)).length c (((bs.drop l).take (h - l)).map bv) := by
 obtain ⟨A, c, h3, h4⟩ := SLC.cut hS l h none h1 h2 (by intro x hx; cases hx)
 have e : ((bs.drop l).take (h - l)).length = h - l := by rw [List.length_take, List.length_drop]; omega
 rw [Nat.mul_one, Nat.mul_one, ← List.map_drop, ← List.map_take] at h4
 exact ⟨A, c, by rw [e]; exact h3, by rw [e]; exact h4⟩
theorem SLC.cutE {H : Hp} {c0 : Nat} {A0 : Option Addr} {bs : List UInt8} (hS : SLC H 1 A0 bs.length c0 (bs.map bv)) (l : Nat) (h1 : l ≤ bs.length) :
  ∃ A c, aslice H 1 l bs.length none (.slice A0 bs.length c0) = some (.slice A (bs.drop l).length c) ∧ SLC H 1 A (bs.drop l).length c ((bs.drop l).map bv) := by
 obtain ⟨A, c, h3, h4⟩ := SLC.cutB hS l bs.length h1 (Nat.le_refl _)
 rw [List.take_of_length_le (by rw [List.length_drop]; exact Nat.le_refl _)] at h3 h4
 exact ⟨A, c, h3, h4⟩
theorem and127_8 : ∀ n, n < 256 → n &&& 127 = n % 128 := by decide +kernel
theorem and128_8 : ∀ n, n < 256 → ((n &&& 128) = 0 ↔ n < 128) := by decide +kernel
theorem ib127 (b : UInt8) : ibit .and .u8 (b.toNat : Int) 127 = ((b.toNat % 128 : Nat) : Int) := by
 have h : b.toNat < 256 := b.toNat_lt
 unfold ibit
 simp only
 rw [show IntKind.u8.bits = 8 from rfl, show BitVec.ofInt 8 (b.toNat : Int) = BitVec.ofNat 8 b.toNat from BitVec.ofInt_natCast .., show BitVec.ofInt 8 127 = BitVec.ofNat 8 127 from rfl, BitVec.toNat_and, BitVec.toNat_ofNat, BitVec.toNat_ofNat, Nat.mod_eq_of_lt (show b.toNat < 2 ^ 8 from h), show 127 % 2 ^ 8 = 127 from rfl, and127_8 _ h]
 have h2 : b.toNat % 128 < 128 := Nat.mod_lt _ Dz
 generalize b.toNat % 128 = m at h2
 rw [IntKind.wrap_u8]
 omega
theorem ib128 (b : UInt8) : (ibit .and .u8 (b.toNat : Int) 128 == 0) = decide (b.toNat < 128) := by
 have h : b.toNat < 256 := b.toNat_lt
 have e : ibit .and .u8 (b.toNat : Int) 128 = ((b.toNat &&& 128 : Nat) : Int) := by
  unfold ibit
  simp only
  rw [show IntKind.u8.bits = 8 from rfl, show BitVec.ofInt 8 (b.toNat : Int) = BitVec.ofNat 8 b.toNat from BitVec.ofInt_natCast .., show BitVec.ofInt 8 128 = BitVec.ofNat 8 128 from rfl, BitVec.toNat_and, BitVec.toNat_ofNat, BitVec.toNat_ofNat, Nat.mod_eq_of_lt (show b.toNat < 2 ^ 8 from h), show 128 % 2 ^ 8 = 128 from rfl]
  have h2 : b.toNat &&& 128 ≤ 128 := Nat.and_le_right
  generalize b.toNat &&& 128 = m at h2
  rw [IntKind.wrap_u8]
  omega
 rw [e]
 have := and128_8 _ h
 by_cases h3 : b.toNat < 128
 ·rw [decide_eq_true h3, this.2 h3]; rfl
 ·rw [decide_eq_false h3]
  have h4 : b.toNat &&& 128 ≠ 0 := fun h5 => h3 (this.1 h5)
  rw [beq_eq_false_iff_ne]
  intro h5
  exact h4 (by exact_mod_cast h5)
theorem ibOr (a b : Nat) (ha : a < 18446744073709551616) (hb : b < 18446744073709551616) : ibit .or .u64 (a : Int) (b : Int) = ((a ||| b : Nat) : Int) := by
 unfold ibit
 simp only
 rw [show IntKind.u64.bits = 64 from rfl, show BitVec.ofInt 64 (a : Int) = BitVec.ofNat 64 a from BitVec.ofInt_natCast .., show BitVec.ofInt 64 (b : Int) = BitVec.ofNat 64 b from BitVec.ofInt_natCast .., BitVec.toNat_or, BitVec.toNat_ofNat, BitVec.toNat_ofNat, Nat.mod_eq_of_lt (show a < 2 ^ 64 from ha), Nat.mod_eq_of_lt (show b < 2 ^ 64 from hb)]
 have h2 : a ||| b < 2 ^ 64 := Nat.or_lt_two_pow ha hb
 generalize a ||| b = m at h2
 rw [IntKind.wrap_u64]
 omega
theorem pow128 (n : Nat) : 128 ^ n = 2 ^ (7 * n) := by rw [Nat.pow_mul]
theorem orAdd {a x n : Nat} (h : a < 128 ^ n) : a ||| (x * 128 ^ n) = a + x * 128 ^ n := by
 have h2 : a < 2 ^ (7 * n) := by rw [← pow128]; exact h
 have := Nat.shiftLeft_add_eq_or_of_lt h2 x
 rw [Nat.shiftLeft_eq, ← pow128] at this
 rw [Nat.or_comm, ← this, Nat.add_comm]
def acc (bs : List UInt8) : Nat → Nat
 | 0 => 0
 | i + 1 => acc bs i + (bs.getD i 0).toNat % 128 * 128 ^ i
/-- What is so of a short number's reading after some rounds. -/
structure Lk (bs : List UInt8) (i : Nat) : Prop where
 le : i ≤ 10
 lt : acc bs i < 128 ^ i
 eq : look bs = lookGo i (acc bs i) (bs.drop i)
 l64 : acc bs i < 18446744073709551616
theorem Lk.zero (bs : List UInt8) : Lk bs 0 := ⟨by decide, by show 0 < 1; decide, rfl, by show 0 < 18446744073709551616; decide⟩
theorem Lk.nil {bs : List UInt8} (h : Lk bs bs.length) : look bs = (0, 0, 2) := by
 rw [h.eq, List.drop_length, lookGo]
theorem drop_el {bs : List UInt8} {i : Nat} (hi : i < bs.length) : bs.drop i = bs.getD i 0 :: bs.drop (i + 1) := by
 rw [List.getD_eq_getElem?_getD, List.getElem?_eq_getElem hi, Option.getD_some]
 exact List.drop_eq_getElem_cons hi
theorem Lk.bad {bs : List UInt8} {i : Nat} (h : Lk bs i) (hi : i < bs.length) (hb : (i > 9 ∨ (i = 9 ∧ (bs.getD i 0).toNat % 128 > 1)) ∨ (i > 0 ∧ (bs.getD i 0).toNat = 0)) : look bs = (0, 0, 4) := by
 rw [h.eq, drop_el hi, lookGo, if_pos hb]
theorem Lk.end_ {bs : List UInt8} {i : Nat} (h : Lk bs i) (hi : i < bs.length) (hb : ¬ ((i > 9 ∨ (i = 9 ∧ (bs.getD i 0).toNat % 128 > 1)) ∨ (i > 0 ∧ (bs.getD i 0).toNat = 0))) (hc : (bs.getD i 0).toNat < 128) : look bs = (acc bs (i + 1), i + 1, 0) := by
 rw [h.eq, drop_el hi, lookGo, if_neg hb, if_pos hc, acc]
theorem Lk.step64 {bs : List UInt8} {i : Nat} (h : Lk bs i) (hb : ¬ (i > 9 ∨ (i = 9 ∧ (bs.getD i 0).toNat % 128 > 1))) : acc bs (i + 1) < 128 ^ (i + 1) ∧ acc bs (i + 1) < 18446744073709551616 ∧ (bs.getD i 0).toNat % 128 * 128 ^ i < 18446744073709551616 := by
 have hlow : (bs.getD i 0).toNat % 128 < 128 := Nat.mod_lt _ Dz
 have hlt := h.lt
 have hstep : acc bs (i + 1) < 128 ^ (i + 1) := by
  rw [acc, Nat.pow_succ]
  have : (bs.getD i 0).toNat % 128 * 128 ^ i ≤ 127 * 128 ^ i := Nat.mul_le_mul_right _ Wz
  omega
 have e9 : 128 ^ 9 = 9223372036854775808 := by decide
 have h64 : acc bs (i + 1) < 18446744073709551616 := by
  by_cases h9 : i = 9
  ·subst h9
   have h1 : (bs.getD 9 0).toNat % 128 ≤ 1 := by omega
   have h2 : (bs.getD 9 0).toNat % 128 * 128 ^ 9 ≤ 1 * 128 ^ 9 := Nat.mul_le_mul_right _ h1
   rw [acc]
   omega
  ·have h1 : 128 ^ (i + 1) ≤ 128 ^ 9 := Nat.pow_le_pow_right Dz Wz
   omega
 refine ⟨hstep, h64, ?_⟩
 rw [acc] at h64
 omega
theorem Lk.next {bs : List UInt8} {i : Nat} (h : Lk bs i) (hi : i < bs.length) (hb : ¬ ((i > 9 ∨ (i = 9 ∧ (bs.getD i 0).toNat % 128 > 1)) ∨ (i > 0 ∧ (bs.getD i 0).toNat = 0))) (hc : ¬ (bs.getD i 0).toNat < 128) : Lk bs (i + 1) := by
 have h1 := h.step64 (fun x => hb (.inl x))
 refine ⟨by omega, h1.1, ?_, h1.2.1⟩
 rw [h.eq, drop_el hi, lookGo, if_neg hb, if_neg hc, acc]
/-- The or of what is read and of seven more bits. -/
theorem Lk.or {bs : List UInt8} {i : Nat} (h : Lk bs i) (hb : ¬ (i > 9 ∨ (i = 9 ∧ (bs.getD i 0).toNat % 128 > 1))) : ibit .or .u64 (acc bs i : Int) (IntKind.u64.wrap ((((bs.getD i 0).toNat % 128 : Nat) : Int) * 2 ^ (min ((7 * i : Nat) : Int).toNat 64))) = (acc bs (i + 1) : Int) := by
 have h1 := h.step64 hb
 have hi : i ≤ 9 := by omega
 have e : (((bs.getD i 0).toNat % 128 : Nat) : Int) * 2 ^ (min ((7 * i : Nat) : Int).toNat 64) = (((bs.getD i 0).toNat % 128 * 128 ^ i : Nat) : Int) := by
  rw [Int.toNat_natCast, Nat.min_eq_left (Nat.le_trans (Nat.mul_le_mul_left 7 hi) (by decide : 7 * 9 ≤ 64)), pow128, Int.natCast_mul, Int.natCast_pow]
  rfl
 have e2 : (((bs.getD i 0).toNat % 128 * 128 ^ i : Nat) : Int) < 18446744073709551616 := Int.ofNat_lt.2 h1.2.2
 rw [e, IntKind.wrap_u64, Int.emod_eq_of_lt (Int.natCast_nonneg _) e2, ibOr _ _ h.l64 h1.2.2, orAdd h.lt]
 rfl

/-! ### What a reader's call leaves -/
theorem RdP.refl {H : Hp} {k n c : Nat} {A : Option Addr} {ev : Value} {r : Rd} (hf : ∀ m, k ≤ m → H m = none) (hR : RdN H n A c ev r) {k' : Nat} (hk : k ≤ k') : RdP H k n A c r H k' :=
 ⟨hk, fun m hm => hf m Wz, sub_drop (sub_refl _), ev, hR⟩
theorem sub_cutn {X Y Z : Hp} {n : Nat} (h : Ab.Sub (upd X n none) Y) (h2 : Ab.Sub (upd Y n none) Z) : Ab.Sub (upd X n none) Z := fun m b hm => by
 by_cases e : m = n
 ·subst e; rw [upd_same] at hm; cases hm
 ·exact h2 m b ((upd_other _ _ e).trans (h m b hm))
theorem sub_putn {X Y : Hp} {n : Nat} {x : Option Blk} (h : Ab.Sub (upd X n none) Y) : Ab.Sub (upd X n none) (upd Y n x) := fun m b hm => by
 by_cases e : m = n
 ·subst e; rw [upd_same] at hm; cases hm
 ·exact (upd_other _ _ e).trans (h m b hm)
theorem RdP.trans {H H1 H2 : Hp} {k k1 k2 n c : Nat} {A : Option Addr} {r1 r2 : Rd} (h1 : RdP H k n A c r1 H1 k1) (h2 : RdP H1 k1 n A c r2 H2 k2) : RdP H k n A c r2 H2 k2 :=
 ⟨Nat.le_trans h1.1 h2.1, h2.2.1, sub_cutn h1.2.2.1 h2.2.2.1, h2.2.2.2⟩
theorem stays_n {H H' : Hp} {n : Nat} {b' : Blk} (h : Ab.Sub (upd H n none) H') (h2 : H' n = some b') : ∀ m b, H m = some b → ∃ b', H' m = some b' := fun m b hm => by
 by_cases e : m = n
 ·subst e; exact ⟨_, h2⟩
 ·exact ⟨b, h m b ((upd_other _ _ e).trans hm)⟩
theorem RdP.stays {H H1 : Hp} {k k1 n c : Nat} {A : Option Addr} {r1 : Rd} (h : RdP H k n A c r1 H1 k1) : ∀ m b, H m = some b → ∃ b', H1 m = some b' := by
 obtain ⟨_, _, h1, ev, h2⟩ := h
 exact stays_n h1 h2.hn
theorem RdP.at_ {H H1 : Hp} {k0 k k1 k2 n c : Nat} {A : Option Addr} {r1 : Rd} (h : RdP H k n A c r1 H1 k1) (h0 : k0 ≤ k) (hk : k1 ≤ k2) : RdP H k0 n A c r1 H1 k2 := ⟨Nat.le_trans h0 (Nat.le_trans h.1 hk), fun m hm => h.2.1 m (Nat.le_trans hk hm), h.2.2⟩
/-- The place of a reader moved. -/
theorem RdP.move {H H1 : Hp} {k k1 n c : Nat} {A : Option Addr} {r1 r2 : Rd} {ev : Value} (h : RdP H k n A c r1 H1 k1) (hR : RdN H1 n A c ev r1) (hb : r2.bs = r1.bs) (he : r2.e = r1.e) (ho : r2.on = r1.on) (hok : r2.ok) {x : Int} (hx : x = (r2.at_ : Int)) :
  RdP H k n A c r2 (upd H1 n (some { cells := [.slice A r1.bs.length c, .int .i64 x, ev], elem := 92, kind := .fix })) k1 := by
 subst hx
 have hn := hR.hn
 refine ⟨h.1, fun m hm => ?_, sub_putn h.2.2.1, ev, hR.turn hb he ho hok⟩
 have h1 := h.2.1 m hm
 refine (upd_other _ _ ?_).trans h1
 rintro rfl
 rw [hn] at h1
 cases h1
/-- Blocks that are new. -/
theorem RdP.grow {H H1 H2 : Hp} {k k1 k2 n c : Nat} {A : Option Addr} {r1 : Rd} (h : RdP H k n A c r1 H1 k1) (hs : Ab.Sub H1 H2) (hf : ∀ m, k2 ≤ m → H2 m = none) (hk : k1 ≤ k2) : RdP H k n A c r1 H2 k2 := by
 obtain ⟨h1, h2, h3, ev, h4⟩ := h
 exact ⟨Nat.le_trans h1 hk, hf, sub_trans h3 hs, ev, h4.sub hs⟩
/-- A new slice of bytes. -/
def NewS (H' : Hp) (k k' : Nat) (l : List UInt8) (v : Value) : Prop := ∃ Aq cq, v = .slice Aq l.length cq ∧ SLC H' 1 Aq l.length cq (l.map bv) ∧ ∀ a, Aq = some a → k ≤ a.block ∧ a.block < k'
theorem NewS.none_ {H' : Hp} {k k' : Nat} : NewS H' k k' [] (.slice none 0 0) := ⟨none, 0, rfl, SLC.nil, fun a h => by cases h⟩
theorem NewS.later {H' : Hp} {k0 k k' : Nat} {l : List UInt8} {v : Value} (h : NewS H' k k' l v) (hk : k0 ≤ k) : NewS H' k0 k' l v := by
 obtain ⟨A, c, h1, h2, h3⟩ := h
 exact ⟨A, c, h1, h2, fun a ha => ⟨Nat.le_trans hk (h3 a ha).1, (h3 a ha).2⟩⟩
end Go.Proofs.YteoofihjmldllaaDoor
