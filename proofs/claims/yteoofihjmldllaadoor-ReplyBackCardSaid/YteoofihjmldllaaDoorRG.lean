/- Contracts over the abstract states: the reference's reader: errors, short numbers, bytes, blobs. -/
import Derived.Test.YteoofihjmldllaaDoorR2
set_option linter.unusedVariables false
set_option linter.unusedSimpArgs false
set_option maxRecDepth 100000
namespace Go.Proofs.YteoofihjmldllaaDoor
open Go Go.Ab

section
variable (H : Hp) (k : Nat)

end

end Go.Proofs.YteoofihjmldllaaDoor

/- Contracts over the abstract states: the reference's reader: bytes, blobs, short numbers. -/
set_option linter.unusedVariables false
set_option linter.unusedSimpArgs false
set_option maxRecDepth 100000
namespace Go.Proofs.YteoofihjmldllaaDoor
open Go Go.Ab

section
variable (H : Hp) (k : Nat)

end

end Go.Proofs.YteoofihjmldllaaDoor

/- Values out of readers, in plain Lean; zigzag back; blocks of a function's own beside a reader's. No condition. -/
set_option linter.unusedVariables false
set_option linter.unusedSimpArgs false
set_option maxRecDepth 100000
namespace Go.Proofs.YteoofihjmldllaaDoor
open Go Go.Ab
def zagN (n : Nat) : Int := if n % 2 = 0 then (n / 2 : Nat) else -((n / 2 : Nat) : Int) - 1
theorem zagN_le {n : Nat} (h : n < 18446744073709551616) : -9223372036854775808 ≤ zagN n ∧ zagN n ≤ 9223372036854775807 := by
 unfold zagN
 split <;> omega
theorem zag_bits {n : Nat} (h : n < 18446744073709551616) : ibit .xor .i64 (IntKind.i64.wrap ((n / 2 : Nat) : Int)) (IntKind.i64.wrap (0 - IntKind.i64.wrap ((n % 2 : Nat) : Int))) = zagN n := by
 have e1 : IntKind.i64.wrap ((n / 2 : Nat) : Int) = ((n / 2 : Nat) : Int) := i64_wrap Wz Wz
 have e2 : IntKind.i64.wrap ((n % 2 : Nat) : Int) = ((n % 2 : Nat) : Int) := i64_wrap Wz Wz
 rw [e1, e2]
 unfold ibit zagN
 simp only
 rw [show IntKind.i64.bits = 64 from rfl]
 by_cases h2 : n % 2 = 0
 ·rw [if_pos h2, h2, show BitVec.ofInt 64 (IntKind.i64.wrap (0 - ((0 : Nat) : Int))) = 0#64 by decide, BitVec.xor_zero, BitVec.toNat_ofInt, IntKind.wrap_i64]
  omega
 ·rw [if_neg h2, show n % 2 = 1 by omega, show BitVec.ofInt 64 (IntKind.i64.wrap (0 - ((1 : Nat) : Int))) = BitVec.allOnes 64 by decide, BitVec.xor_allOnes, BitVec.toNat_not, BitVec.toNat_ofInt, IntKind.wrap_i64]
  omega
theorem ib1 {n : Nat} (h : n < 18446744073709551616) : ibit .and .u64 (n : Int) 1 = ((n % 2 : Nat) : Int) := by
 unfold ibit
 simp only
 rw [show IntKind.u64.bits = 64 from rfl, show BitVec.ofInt 64 (n : Int) = BitVec.ofNat 64 n from BitVec.ofInt_natCast .., show BitVec.ofInt 64 1 = BitVec.ofNat 64 1 from rfl, BitVec.toNat_and, BitVec.toNat_ofNat, BitVec.toNat_ofNat, Nat.mod_eq_of_lt (show n < 2 ^ 64 from h), show 1 % 2 ^ 64 = 1 from rfl, Nat.and_one_is_mod]
 have h2 : n % 2 < 2 := Nat.mod_lt _ Dz
 generalize n % 2 = m at h2
 rw [IntKind.wrap_u64]
 omega
def takeK (r : Rd) : Val × Rd := if r.fix1.1 = 0 then (vD, r.fix1.2) else if r.fix1.1 = 1 then (⟨1, zagN r.fix1.2.var.1, ⟨#[]⟩⟩, r.fix1.2.var.2) else if r.fix1.1 = 2 then (⟨2, 0, ⟨(r.fix1.2.blob 65536).1.toArray⟩⟩, (r.fix1.2.blob 65536).2) else (vD, r.fix1.2.fail 4)
def takeV (r : Rd) : Val × Rd := (if (takeK r).2.e ≠ 0 then vD else (takeK r).1, (takeK r).2)
theorem Rd.fix1_bs (r : Rd) : r.fix1.2.bs = r.bs := Rd.take_bs r 1
theorem takeK_bs (r : Rd) : (takeK r).2.bs = r.bs := by
 unfold takeK
 split
 ·exact Rd.fix1_bs r
 ·split
  ·exact (Rd.var_bs _).trans (Rd.fix1_bs r)
  ·split
   ·exact (Rd.blob_bs _ _).trans (Rd.fix1_bs r)
   ·exact (Rd.fail_bs _ _).trans (Rd.fix1_bs r)
theorem takeV_bs (r : Rd) : (takeV r).2.bs = r.bs := takeK_bs r
theorem vD_ok : vD.ok := ⟨rfl, rfl, Nat.zero_le _⟩
theorem wf_i64 {n : Int} (h1 : -9223372036854775808 ≤ n) (h2 : n ≤ 9223372036854775807) : (Lit.int .i64 n).wf = true := by
 simp only [Lit.wf, Bool.and_eq_true, decide_eq_true_eq]
 exact ⟨h1, h2⟩
theorem takeK_ok {r : Rd} (h : r.ok) : (takeK r).2.ok ∧ (takeK r).1.ok := by
 have h1 := (Rd.fix1_ok h).1
 unfold takeK
 split
 ·exact ⟨h1, vD_ok⟩
 ·split
  ·have h2 := Rd.var_ok h1
   have h3 := zagN_le h2.2
   exact ⟨h2.1, rfl, wf_i64 h3.1 h3.2, Nat.zero_le _⟩
  ·split
   ·have h2 := Rd.blob_ok h1 65536
    refine ⟨h2.1, rfl, rfl, ?_⟩
    show (r.fix1.2.blob 65536).1.toArray.size ≤ reachBytes
    rw [List.size_toArray]
    exact Nat.le_trans h2.2 Dz
   ·exact ⟨Rd.fail_ok h1 Dz Dz, vD_ok⟩
theorem takeV_ok {r : Rd} (h : r.ok) : (takeV r).2.ok ∧ (takeV r).1.ok := by
 refine ⟨(takeK_ok h).1, ?_⟩
 unfold takeV
 simp only
 split
 ·exact vD_ok
 ·exact (takeK_ok h).2
/-! ### Blocks of a function's own -/
theorem RdP.own {H X HL HF : Hp} {k k0 kx n c : Nat} {A : Option Addr} {r r' : Rd} (qs : List Nat) (hP : RdP X k0 n A c r' HL kx) (hX : Ab.Sub H X) (hk : k ≤ k0) (hb : r'.bs = r.bs) (hq : ∀ q ∈ qs, H q = none ∧ q ≠ n ∧ Away A r.bs.length q ∧ q < kx ∧ ∃ b, HL q = some b ∧ b.elem ≠ 101) (hF : ∀ m, m ∉ qs → HF m = HL m) : RdP H k n A c r' HF kx := by
 obtain ⟨h1, h2, h3, ev, h4⟩ := hP
 have key : ErrV HF ev r' := by
  rcases h4.he with h | ⟨h, f, h5, h6⟩
  ·exact .inl h
  ·refine .inr ⟨h, f, h5, ?_⟩
   rw [hF f (fun hx => ?_)]
   ·exact h6
   ·obtain ⟨b, h7, h8⟩ := (hq f hx).2.2.2.2
    rw [h6] at h7
    injection h7 with h7
    subst h7
    exact h8 rfl
 have hRf : ∀ (qs : List Nat) (Y : Hp), SLC Y 1 A r'.bs.length c (r'.bs.map bv) → (∀ q ∈ qs, Away A r'.bs.length q) → ∀ HF : Hp, (∀ m, m ∉ qs → HF m = Y m) → SLC HF 1 A r'.bs.length c (r'.bs.map bv) := by
  intro qs
  induction qs with
  | nil => intro Y hY _ HF hF; rw [show HF = Y from funext fun m => hF m (by simp)]; exact hY
  | cons q qs ih =>
   intro Y hY hq HF hF
   refine ih (upd Y q (HF q)) (SLC.away (hq q List.mem_cons_self) hY) (fun x hx => hq x (List.mem_cons_of_mem _ hx)) HF fun m hm => ?_
   by_cases hmq : m = q
   ·subst hmq; rw [upd_same]
   ·rw [upd_other _ _ hmq]; exact hF m (by simp [hmq, hm])
 refine ⟨Nat.le_trans hk h1, fun m hm => ?_, fun m b hm => ?_, ev, ?_, hRf qs HL h4.hs (fun q hm => by rw [hb]; exact (hq q hm).2.2.1) HF hF, h4.hA, key, h4.ok⟩
 ·rw [hF m (fun hx => by have := (hq m hx).2.2.2.1; omega)]
  exact h2 m hm
 ·by_cases hmn : m = n
  ·subst hmn; rw [upd_same] at hm; cases hm
  ·rw [upd_other _ _ hmn] at hm
   rw [hF m (fun hx => by rw [(hq m hx).1] at hm; cases hm)]
   exact h3 m b ((upd_other _ _ hmn).trans (hX m b hm))
 ·rw [hF n (fun hx => (hq n hx).2.1 rfl)]
  exact h4.hn
/-- The errors' type is no reader. -/
theorem RdN.ne2 {H : Hp} {n c : Nat} {A : Option Addr} {ev : Value} {r : Rd} (h : RdN H n A c ev r) (h2 : H 1 = some hBlk) : 1 ≠ n := by
 rintro rfl
 have := h.hn
 rw [h2] at this
 injection this with this
 have := congrArg Blk.kind this
 cases this
end Go.Proofs.YteoofihjmldllaaDoor
