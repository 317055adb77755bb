/- Predicates, in plain Lean: what operators have, the truth of a row, what is wrong with a predicate; predicates in memory. No condition. -/
import Derived.Test.YteoofihjmldllaaDoorV5
import Derived.Test.YteoofihjmldllaaDoorAbG
import Derived.Test.YteoofihjmldllaaDoorF2
import Derived.Test.YteoofihjmldllaaDoorV4
import Derived.Test.YteoofihjmldllaaDoorAb30
set_option linter.unusedVariables false
set_option linter.unusedSimpArgs false
set_option maxRecDepth 100000
namespace Go.Proofs.YteoofihjmldllaaDoor
open Go Go.Ab

def vD : Val := ⟨0, 0, ⟨#[]⟩⟩
def known (op : Int) : Bool := decide (op ≥ 0) && decide (op < 13)
/-! ### In memory -/
end Go.Proofs.YteoofihjmldllaaDoor

/- Contracts over the abstract states: predicates: what operators have, comparisons, the truth of a row. -/
set_option linter.unusedVariables false
set_option linter.unusedSimpArgs false
set_option maxRecDepth 100000
namespace Go.Proofs.YteoofihjmldllaaDoor
open Go Go.Ab

section
variable (H : Hp) (k : Nat)
end

end Go.Proofs.YteoofihjmldllaaDoor

/- What the arguments of the statements on values, predicates and zones are. No condition. -/
set_option linter.unusedVariables false
set_option maxRecDepth 100000
namespace Go.Proofs.YteoofihjmldllaaDoor
open Go Go.Ab
end Go.Proofs.YteoofihjmldllaaDoor

/- Readers, in plain Lean: short numbers, taken bytes, blobs, errors at places; readers in memory. No condition. -/
set_option linter.unusedVariables false
set_option linter.unusedSimpArgs false
set_option maxRecDepth 100000
namespace Go.Proofs.YteoofihjmldllaaDoor
open Go Go.Ab

structure Rd where
 bs : List UInt8
 at_ : Nat
 e : Int
 on : Int
def Rd.fail (r : Rd) (e : Int) : Rd := if r.e = 0 ∧ e ≠ 0 then { r with e := e, on := (r.at_ : Int) } else r
/-- The short number that begins bytes, behind n bytes of it. -/
def lookGo : Nat → Nat → List UInt8 → Nat × Nat × Int
 | _, _, [] => (0, 0, 2)
 | n, v, c :: r => if (n > 9 ∨ (n = 9 ∧ c.toNat % 128 > 1)) ∨ (n > 0 ∧ c.toNat = 0) then (0, 0, 4) else if c.toNat < 128 then (v + c.toNat % 128 * 128 ^ n, n + 1, 0) else lookGo (n + 1) (v + c.toNat % 128 * 128 ^ n) r
def look (bs : List UInt8) : Nat × Nat × Int := lookGo 0 0 bs
def Rd.left (r : Rd) : Int := (r.bs.length : Int) - (r.at_ : Int)
def Rd.rest (r : Rd) : List UInt8 := r.bs.drop r.at_
def Rd.var (r : Rd) : Nat × Rd := if r.e ≠ 0 then (0, r) else ((look r.rest).1, { r.fail (look r.rest).2.2 with at_ := r.at_ + (look r.rest).2.1 })
def Rd.take (r : Rd) (n : Nat) : List UInt8 × Rd := if r.e ≠ 0 then ([], r) else if (n : Int) > r.left then ([], r.fail 2) else (r.rest.take n, { r with at_ := r.at_ + n })
def Rd.fix1 (r : Rd) : Nat × Rd := ((r.take 1).1.headD 0 |>.toNat, (r.take 1).2)
def blobE (r : Rd) (most : Nat) : Int := if (look r.rest).2.2 ≠ 0 then (look r.rest).2.2 else if (look r.rest).1 > most then 12 else if ((look r.rest).1 : Int) > r.left - ((look r.rest).2.1 : Int) then 2 else 0
def Rd.blob (r : Rd) (most : Nat) : List UInt8 × Rd := if r.e ≠ 0 then ([], r) else if blobE r most ≠ 0 then ([], r.fail (blobE r most)) else ({ r with at_ := r.at_ + (look r.rest).2.1 } : Rd).take (look r.rest).1
def Rd.end_ (r : Rd) : Int × Int := if r.e = 0 ∧ r.at_ < r.bs.length then (3, (r.at_ : Int)) else (r.e, r.on)
/-- What is always so of a reader. -/
structure Rd.ok (r : Rd) : Prop where
 at_le : r.at_ ≤ r.bs.length
 len : r.bs.length ≤ 1000000000
 e0 : 0 ≤ r.e
 e1 : r.e ≤ 100
 on0 : 0 ≤ r.on
 on1 : r.on ≤ 1000000000
 none_ : r.e = 0 → r.on = 0
theorem Rd.fail_bs (r : Rd) (e : Int) : (r.fail e).bs = r.bs := by unfold Rd.fail; split <;> rfl
theorem Rd.fail_at (r : Rd) (e : Int) : (r.fail e).at_ = r.at_ := by unfold Rd.fail; split <;> rfl
theorem Rd.fail_ok {r : Rd} (h : r.ok) {e : Int} (h0 : 0 ≤ e) (h1 : e ≤ 100) : (r.fail e).ok := by
 unfold Rd.fail
 split
 ·rename_i hc
  have h2 := h.at_le
  have h3 := h.len
  exact ⟨h.at_le, h.len, h0, h1, by show (0 : Int) ≤ (r.at_ : Int); omega, by show (r.at_ : Int) ≤ 1000000000; omega, fun he => absurd he hc.2⟩
 ·exact h
theorem lookGo_facts : ∀ (l : List UInt8) (n v : Nat), v < 128 ^ n → n ≤ 10 → (lookGo n v l).2.1 ≤ n + l.length ∧ (lookGo n v l).1 < 18446744073709551616 ∧ ((lookGo n v l).2.2 = 0 ∨ (lookGo n v l).2.2 = 2 ∨ (lookGo n v l).2.2 = 4) ∧ ((lookGo n v l).2.2 ≠ 0 → (lookGo n v l).1 = 0 ∧ (lookGo n v l).2.1 = 0)
 | [], n, v, hv, hn => by rw [lookGo]; exact ⟨Nat.zero_le _, by decide, .inr (.inl rfl), fun _ => ⟨rfl, rfl⟩⟩
 | c :: r, n, v, hv, hn => by
  rw [lookGo]
  split
  ·exact ⟨Nat.zero_le _, by decide, .inr (.inr rfl), fun _ => ⟨rfl, rfl⟩⟩
  ·rename_i hc
   have hn9 : n ≤ 9 := by omega
   have hlow : c.toNat % 128 < 128 := Nat.mod_lt _ Dz
   have hstep : v + c.toNat % 128 * 128 ^ n < 128 ^ (n + 1) := by
    rw [Nat.pow_succ]
    have : c.toNat % 128 * 128 ^ n ≤ 127 * 128 ^ n := Nat.mul_le_mul_right _ Wz
    omega
   have h64 : v + c.toNat % 128 * 128 ^ n < 18446744073709551616 := by
    by_cases h9 : n = 9
    ·subst h9
     have : c.toNat % 128 ≤ 1 := by omega
     have : c.toNat % 128 * 128 ^ 9 ≤ 1 * 128 ^ 9 := Nat.mul_le_mul_right _ this
     have e9 : 128 ^ 9 = 9223372036854775808 := by decide
     omega
    ·have : 128 ^ (n + 1) ≤ 128 ^ 9 := Nat.pow_le_pow_right Dz Wz
     have e9 : 128 ^ 9 = 9223372036854775808 := by decide
     omega
   split
   ·exact ⟨by rw [List.length_cons]; show n + 1 ≤ _; omega, h64, .inl rfl, fun h => absurd rfl h⟩
   ·have ih := lookGo_facts r (n + 1) _ hstep Wz
    rw [List.length_cons]
    exact ⟨by omega, ih.2.1, ih.2.2.1, ih.2.2.2⟩
theorem look_facts (l : List UInt8) : (look l).2.1 ≤ l.length ∧ (look l).1 < 18446744073709551616 ∧ ((look l).2.2 = 0 ∨ (look l).2.2 = 2 ∨ (look l).2.2 = 4) ∧ ((look l).2.2 ≠ 0 → (look l).1 = 0 ∧ (look l).2.1 = 0) := by
 have := lookGo_facts l 0 0 Dz Dz
 rw [Nat.zero_add] at this
 exact this
theorem Rd.rest_len (r : Rd) : r.rest.length = r.bs.length - r.at_ := List.length_drop
theorem Rd.var_ok {r : Rd} (h : r.ok) : r.var.2.ok ∧ r.var.1 < 18446744073709551616 := by
 unfold Rd.var
 split
 ·exact ⟨h, by show 0 < 18446744073709551616; decide⟩
 ·obtain ⟨h1, h2, h3, h4⟩ := look_facts r.rest
  rw [Rd.rest_len] at h1
  have h5 := h.at_le
  have hf := Rd.fail_ok h (e := (look r.rest).2.2) Wz Wz
  refine ⟨⟨?_, by show (r.fail _).bs.length ≤ _; rw [Rd.fail_bs]; exact h.len, hf.e0, hf.e1, hf.on0, hf.on1, hf.none_⟩, h2⟩
  show r.at_ + (look r.rest).2.1 ≤ (r.fail _).bs.length
  rw [Rd.fail_bs]
  omega
theorem Rd.take_ok {r : Rd} (h : r.ok) (n : Nat) : (r.take n).2.ok ∧ (r.take n).1.length ≤ n ∧ (r.take n).1.length ≤ 1000000000 := by
 unfold Rd.take
 have h5 := h.at_le
 have h6 := h.len
 split
 ·exact ⟨h, Nat.zero_le _, Nat.zero_le _⟩
 ·split
  ·exact ⟨Rd.fail_ok h Dz Dz, Nat.zero_le _, Nat.zero_le _⟩
  ·rename_i hc
   unfold Rd.left at hc
   refine ⟨⟨by show r.at_ + n ≤ r.bs.length; omega, h.len, h.e0, h.e1, h.on0, h.on1, h.none_⟩, by rw [List.length_take]; omega, by rw [List.length_take, Rd.rest_len]; omega⟩
theorem Rd.blob_ok {r : Rd} (h : r.ok) (most : Nat) : (r.blob most).2.ok ∧ (r.blob most).1.length ≤ 1000000000 := by
 unfold Rd.blob
 split
 ·exact ⟨h, Nat.zero_le _⟩
 ·obtain ⟨h1, h2, h3, h4⟩ := look_facts r.rest
  rw [Rd.rest_len] at h1
  have h5 := h.at_le
  split
  ·refine ⟨Rd.fail_ok h ?_ ?_, Nat.zero_le _⟩ <;> unfold blobE <;> repeat' split
   all_goals omega
  ·have hr : ({ r with at_ := r.at_ + (look r.rest).2.1 } : Rd).ok := ⟨by show r.at_ + (look r.rest).2.1 ≤ r.bs.length; omega, h.len, h.e0, h.e1, h.on0, h.on1, h.none_⟩
   have := Rd.take_ok hr (look r.rest).1
   exact ⟨this.1, this.2.2⟩
theorem Rd.fix1_ok {r : Rd} (h : r.ok) : r.fix1.2.ok ∧ r.fix1.1 < 256 := ⟨(Rd.take_ok h 1).1, UInt8.toNat_lt _⟩
theorem Rd.take_bs (r : Rd) (n : Nat) : (r.take n).2.bs = r.bs := by
 unfold Rd.take
 split
 ·rfl
 ·split
  ·exact Rd.fail_bs r 2
  ·rfl
theorem Rd.var_bs (r : Rd) : r.var.2.bs = r.bs := by
 unfold Rd.var
 split
 ·rfl
 ·exact Rd.fail_bs r _
theorem Rd.blob_bs (r : Rd) (most : Nat) : (r.blob most).2.bs = r.bs := by
 unfold Rd.blob
 split
 ·rfl
 ·split
  ·exact Rd.fail_bs r _
  ·exact Rd.take_bs _ _

/-! ### In memory -/
end Go.Proofs.YteoofihjmldllaaDoor
namespace Go.Ab
/-- A slice that does not depend on a block. -/
def Away (A : Option Addr) (l m : Nat) : Prop := ∀ a, A = some a → a.block = m → l = 0 ∧ (a.spot = none ∨ a.spot = some 0)
theorem Away.ne {A : Option Addr} {l m : Nat} (h : ∀ a, A = some a → a.block ≠ m) : Away A l m := fun a ha hm => absurd hm (h a ha)
theorem SLC.away {H : Hp} {z l c m : Nat} {A : Option Addr} {cs : List Value} {x : Option Blk} (hA : Away A l m) (h : SLC H z A l c cs) : SLC (upd H m x) z A l c cs := by
 cases A with
 | none =>
  obtain ⟨h1, h2⟩ := h
  cases l with
  | zero => cases c with
   | zero => exact ⟨h1, trivial⟩
   | succ c => exact absurd h2 (by simp [SlcWf])
  | succ l => exact absurd h2 (by simp [SlcWf])
 | some a =>
  obtain ⟨n, off, sp⟩ := a
  by_cases hn : n = m
  ·obtain ⟨rfl, hs⟩ := hA _ rfl hn
   obtain ⟨h1, h2⟩ := h
   rcases hs with hs | hs
   ·simp only at hs
    subst hs
    exact ⟨h1, h2⟩
   ·simp only at hs
    subst hs
    exact ⟨h1, h2⟩
  have e : (upd H m x) n = H n := upd_other _ _ hn
  obtain ⟨h1, h2⟩ := h
  refine ⟨?_, ?_⟩
  ·unfold slcCells at h1 ⊢
   split at h1 <;> simp_all
  ·unfold SlcWf at h2 ⊢
   split at h2 <;> simp_all
/-- A block that is not there is none that a slice depends on. -/
theorem Away.of {H : Hp} {z l c m : Nat} {A : Option Addr} {cs : List Value} (h : SLC H z A l c cs) (hm : H m = none) : Away A l m := by
 rintro ⟨n, off, sp⟩ rfl hn
 simp only at hn
 subst hn
 obtain ⟨h1, h2⟩ := h
 unfold SlcWf at h2
 unfold slcCells at h1
 split at h2
 ·cases ‹Value.slice _ _ _ = _›
 ·rename_i he
  injection he with he
  injection he with he
  injection he with e1 e2 e3
  subst e1; subst e2; subst e3
  by_cases h0 : l = 0
  ·exact ⟨h0, .inl rfl⟩
  ·simp [h0, hm] at h1
 ·rename_i he
  injection he with he
  injection he with he
  injection he with e1 e2 e3
  subst e1; subst e2; subst e3
  by_cases h0 : l = 0
  ·exact ⟨h0, .inr rfl⟩
  ·simp [h0, hm] at h1
 ·rename_i he
  injection he with he
  injection he with he
  injection he with e1 e2 e3
  subst e1
  obtain ⟨b, h3, _⟩ := h2
  rw [hm] at h3
  cases h3
 ·rename_i he
  injection he with he
  injection he with he
  injection he with e1 e2 e3
  subst e1
  obtain ⟨b, h3, _⟩ := h2
  rw [hm] at h3
  cases h3
 ·exact absurd h2 id
end Go.Ab
namespace Go.Proofs.YteoofihjmldllaaDoor
open Go Go.Ab
abbrev rnBlk (A : Option Addr) (c : Nat) (ev : Value) (r : Rd) : Blk := { cells := [.slice A r.bs.length c, .int .i64 (r.at_ : Int), ev], elem := 92, kind := .fix }
def ErrV (H : Hp) (ev : Value) (r : Rd) : Prop := (r.e = 0 ∧ ev = .nilIface) ∨ (r.e ≠ 0 ∧ ∃ f, ev = .iface 96 (.pointer (some ⟨f, 0, none⟩)) ∧ H f = some (fBlk r.on r.e))
structure RdN (H : Hp) (n : Nat) (A : Option Addr) (c : Nat) (ev : Value) (r : Rd) : Prop where
 hn : H n = some (rnBlk A c ev r)
 hs : SLC H 1 A r.bs.length c (r.bs.map bv)
 hA : Away A r.bs.length n
 he : ErrV H ev r
 ok : r.ok
theorem ErrV.sub {H H' : Hp} {ev : Value} {r : Rd} (hs : Ab.Sub H H') (h : ErrV H ev r) : ErrV H' ev r := by
 rcases h with h | ⟨h, f, h1, h2⟩
 ·exact .inl h
 ·exact .inr ⟨h, f, h1, hs _ _ h2⟩
theorem ErrV.away {H : Hp} {ev : Value} {r : Rd} {m : Nat} {b : Blk} {x : Option Blk} (hm : H m = some b) (hb : b.elem ≠ 101) (h : ErrV H ev r) : ErrV (upd H m x) ev r := by
 rcases h with h | ⟨h, f, h1, h2⟩
 ·exact .inl h
 ·refine .inr ⟨h, f, h1, (upd_other _ _ ?_).trans h2⟩
  rintro rfl
  rw [hm] at h2
  injection h2 with h2
  subst h2
  exact hb rfl
theorem RdN.sub {H H' : Hp} {n c : Nat} {A : Option Addr} {ev : Value} {r : Rd} (h : RdN H n A c ev r) (hs : Ab.Sub H H') : RdN H' n A c ev r := ⟨hs _ _ h.hn, h.hs.sub hs, h.hA, h.he.sub hs, h.ok⟩
/-- Another block may be another one. -/
theorem RdN.away {H : Hp} {n c m : Nat} {A : Option Addr} {ev : Value} {r : Rd} {b : Blk} {x : Option Blk} (h : RdN H n A c ev r) (hnm : n ≠ m) (hA : Away A r.bs.length m) (hm : H m = some b) (hb : b.elem ≠ 101) : RdN (upd H m x) n A c ev r :=
 ⟨(upd_other _ _ hnm).trans h.hn, h.hs.away hA, h.hA, h.he.away hm hb, h.ok⟩
/-- The reader itself turned. -/
theorem RdN.turn {H : Hp} {n c : Nat} {A : Option Addr} {ev : Value} {r : Rd} (h : RdN H n A c ev r) {r' : Rd} (hb : r'.bs = r.bs) (he : r'.e = r.e) (ho : r'.on = r.on) (hok : r'.ok) : RdN (upd H n (some { cells := [.slice A r.bs.length c, .int .i64 (r'.at_ : Int), ev], elem := 92, kind := .fix })) n A c ev r' := by
 refine ⟨?_, by rw [hb]; exact h.hs.away h.hA, by rw [hb]; exact h.hA, ?_, hok⟩
 ·rw [upd_same]
  unfold rnBlk
  rw [hb]
 ·have h1 := h.he.away (x := some { cells := [.slice A r.bs.length c, .int .i64 (r'.at_ : Int), ev], elem := 92, kind := .fix }) h.hn (by show (92 : Nat) ≠ 101; decide)
  unfold ErrV at h1 ⊢
  rw [he, ho]
  exact h1
/-- What a reader's call leaves. -/
def RdP (H : Hp) (k n : Nat) (A : Option Addr) (c : Nat) (r' : Rd) (H' : Hp) (k' : Nat) : Prop := k ≤ k' ∧ (∀ m, k' ≤ m → H' m = none) ∧ Ab.Sub (upd H n none) H' ∧ ∃ ev, RdN H' n A c ev r'
end Go.Proofs.YteoofihjmldllaaDoor

/- Forms of values, schemas and rows as bytes, in plain Lean. No condition. -/
set_option linter.unusedVariables false
set_option linter.unusedSimpArgs false
namespace Go.Proofs.YteoofihjmldllaaDoor
open Go Go.Ab

/-- A number in groups of seven bits, the lowest first. -/
def varB (v : Nat) : List UInt8 := if h : v < 128 then [UInt8.ofNat v] else UInt8.ofNat (v % 128 + 128) :: varB (v / 128)
termination_by v
decreasing_by omega
def zigN (n : Int) : Nat := if 0 ≤ n then 2 * n.toNat else 2 * (-(n + 1)).toNat + 1

def putB (a : Val) : List UInt8 := byteI a.kind :: (if a.kind = 1 then varB (zigN a.n) else if a.kind = 2 then varB a.s.size ++ a.s.data.toList else [])
theorem zigN_lt {n : Int} (h1 : -9223372036854775808 ≤ n) (h2 : n ≤ 9223372036854775807) : zigN n < 18446744073709551616 := by
 unfold zigN
 split <;> omega
theorem varB_small {v : Nat} (h : v < 128) : varB v = [UInt8.ofNat v] := by rw [varB, dif_pos h]
theorem varB_big {v : Nat} (h : ¬ v < 128) : varB v = UInt8.ofNat (v % 128 + 128) :: varB (v / 128) := by rw [varB, dif_neg h]

theorem or128_nat : ∀ x, x < 256 → x ||| 128 = x % 128 + 128 := by decide +kernel
/-- byte(v) | 128 -/
theorem or128 (v : Nat) : ibit .or .u8 (IntKind.u8.wrap (v : Int)) 128 = ((UInt8.ofNat (v % 128 + 128)).toNat : Int) := by
 have h1 : (BitVec.ofInt 8 (IntKind.u8.wrap (v : Int))).toNat = v % 256 := by
  rw [BitVec.toNat_ofInt, IntKind.wrap_u8]
  omega
 have h2 : (BitVec.ofInt 8 (IntKind.u8.wrap (v : Int)) ||| BitVec.ofInt 8 128).toNat = v % 128 + 128 := by
  rw [BitVec.toNat_or, h1, show (BitVec.ofInt 8 128).toNat = 128 by decide, or128_nat _ Wz]
  omega
 show IntKind.u8.wrap ((BitVec.ofInt 8 (IntKind.u8.wrap (v : Int)) ||| BitVec.ofInt 8 128).toNat : Int) = _
 rw [h2, IntKind.wrap_u8, UInt8.toNat_ofNat']
 omega
theorem or128' (v : Nat) : ibit .or .u8 ((UInt8.ofNat v).toNat : Int) 128 = ((UInt8.ofNat (v % 128 + 128)).toNat : Int) := by
 rw [← or128 v]
 congr 1
/-- uint64(n) << 1 ^ uint64(n >> 63) -/
theorem zig_u64 (n : Int) (h1 : -9223372036854775808 ≤ n) (h2 : n ≤ 9223372036854775807) :
  ibit .xor .u64 (IntKind.u64.wrap (IntKind.u64.wrap n * 2 ^ (min (1 : Int).toNat 64))) (IntKind.u64.wrap (n.fdiv (2 ^ (min (63 : Int).toNat 64)))) = (zigN n : Int) := by
 have e1 : (2 : Int) ^ (min (1 : Int).toNat 64) = 2 := by decide
 have e2 : (2 : Int) ^ (min (63 : Int).toNat 64) = 9223372036854775808 := by decide
 rw [e1, e2, Int.fdiv_eq_ediv_of_nonneg _ Dz]
 show IntKind.u64.wrap ((BitVec.ofInt 64 (IntKind.u64.wrap (IntKind.u64.wrap n * 2)) ^^^ BitVec.ofInt 64 (IntKind.u64.wrap (n / 9223372036854775808))).toNat : Int) = _
 unfold zigN
 by_cases h : 0 ≤ n
 ·rw [if_pos h]
  have : n / 9223372036854775808 = 0 := Int.ediv_eq_zero_of_lt h Wz
  rw [this, show BitVec.ofInt 64 (IntKind.u64.wrap 0) = 0#64 by decide, BitVec.xor_zero, BitVec.toNat_ofInt, IntKind.wrap_u64, IntKind.wrap_u64, IntKind.wrap_u64]
  omega
 ·rw [if_neg h]
  have : n / 9223372036854775808 = -1 := by omega
  rw [this, show BitVec.ofInt 64 (IntKind.u64.wrap (-1)) = BitVec.allOnes 64 by decide, BitVec.xor_allOnes, BitVec.toNat_not, BitVec.toNat_ofInt, IntKind.wrap_u64, IntKind.wrap_u64, IntKind.wrap_u64]
  omega
theorem varB_pos : ∀ v, 0 < (varB v).length := by
 intro v
 by_cases h : v < 128
 ·rw [varB_small h]; exact Nat.zero_lt_one
 ·rw [varB_big h]; simp
theorem div_pow (v i : Nat) : v / 128 ^ (i + 1) = v / 128 / 128 ^ i := by rw [Nat.pow_succ, Nat.mul_comm, Nat.div_div_eq_div_mul]
theorem varB_at : ∀ (i v : Nat), i ≤ (varB v).length - 1 → 128 ≤ v / 128 ^ i → i < (varB v).length - 1 ∧ (varB v).take (i + 1) = (varB v).take i ++ [UInt8.ofNat (v / 128 ^ i % 128 + 128)]
 | 0, v, _, h => by
  rw [Nat.pow_zero, Nat.div_one] at h
  have := varB_pos (v / 128)
  rw [varB_big Wz]
  simp
  omega
 | i + 1, v, hi, h => by
  rw [div_pow] at h
  by_cases hv : v < 128
  ·rw [varB_small hv] at hi
   simp at hi
  ·rw [varB_big hv] at hi ⊢
   simp only [List.length_cons] at hi ⊢
   obtain ⟨h1, h2⟩ := varB_at i (v / 128) Wz h
   refine ⟨by omega, ?_⟩
   rw [List.take_succ_cons, h2, div_pow]
   rfl
theorem varB_last : ∀ (i v : Nat), i ≤ (varB v).length - 1 → v / 128 ^ i < 128 → varB v = (varB v).take i ++ [UInt8.ofNat (v / 128 ^ i)]
 | 0, v, _, h => by
  rw [Nat.pow_zero, Nat.div_one] at h ⊢
  rw [varB_small h]
  rfl
 | i + 1, v, hi, h => by
  rw [div_pow] at h
  by_cases hv : v < 128
  ·rw [varB_small hv] at hi
   simp at hi
  ·rw [varB_big hv] at hi ⊢
   simp only [List.length_cons] at hi
   rw [List.take_succ_cons, div_pow]
   have := varB_last i (v / 128) Wz h
   rw [List.cons_append, ← this]
theorem varB_len : ∀ v, v < 18446744073709551616 → (varB v).length ≤ 10 := by
 have key : ∀ (n v : Nat), v < 128 ^ (n + 1) → (varB v).length ≤ n + 1 := by
  intro n
  induction n with
  | zero =>
   intro v hv
   rw [varB_small (by simpa using hv)]
   simp
  | succ n ih =>
   intro v hv
   by_cases h : v < 128
   ·rw [varB_small h]; simp
   ·rw [varB_big h, List.length_cons]
    have := ih (v / 128) (by rw [Nat.div_lt_iff_lt_mul Dz, ← Nat.pow_succ]; exact hv)
    omega
 intro v hv
 exact key 9 v Wz
theorem bv_inj' {a b : UInt8} (h : (a.toNat : Int) = (b.toNat : Int)) : a = b := UInt8.toNat_inj.1 Wz
end Go.Proofs.YteoofihjmldllaaDoor
