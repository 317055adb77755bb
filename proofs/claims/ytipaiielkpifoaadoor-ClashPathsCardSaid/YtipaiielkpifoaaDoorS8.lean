/- Contracts over the abstract states: the statements on digests. -/
import Derived.Test.YtipaiielkpifoaaDoorS7
set_option linter.unusedVariables false
set_option linter.unusedSimpArgs false
set_option maxRecDepth 100000
namespace Go.Proofs.YtipaiielkpifoaaDoor
open Go Go.Ab

abbrev hexNil : List UInt8 := [101, 51, 98, 48, 99, 52, 52, 50, 57, 56, 102, 99, 49, 99, 49, 52, 57, 97, 102, 98, 102, 52, 99, 56, 57, 57, 54, 102, 98, 57, 50, 52, 50, 55, 97, 101, 52, 49, 101, 52, 54, 52, 57, 98, 57, 51, 52, 99, 97, 52, 57, 53, 57, 57, 49, 98, 55, 56, 53, 50, 98, 56, 53, 53]
abbrev hexAbc : List UInt8 := [98, 97, 55, 56, 49, 54, 98, 102, 56, 102, 48, 49, 99, 102, 101, 97, 52, 49, 52, 49, 52, 48, 100, 101, 53, 100, 97, 101, 50, 50, 50, 51, 98, 48, 48, 51, 54, 49, 97, 51, 57, 54, 49, 55, 55, 97, 57, 99, 98, 52, 49, 48, 102, 102, 54, 49, 102, 50, 48, 48, 49, 53, 97, 100]
theorem awake1 : hexB (shaB []) = hexNil := by decide +kernel
theorem awake2 : hexB (shaB [97, 98, 99]) = hexAbc := by decide +kernel
theorem sum_nil : ∃ d : Dg, hexB d.l = hexNil ∧ ∀ (H : Hp) (k : Nat), H 0 = some tabBlk → ACalls Tryd.prog 1 77 [.slice none 0 0] H k (Same H k (hv d)) :=
  ⟨shaD [], awake1, fun H k ht => sum_b H k ht [] none 0 SLC.nil (by decide)⟩
theorem sum_abc : ∃ d : Dg, hexB d.l = hexAbc ∧ ∀ (H : Hp) (k : Nat) (A : Option Addr) (c : Nat), H 0 = some tabBlk → SLC H 1 A 3 c ([97, 98, 99].map bv) → ACalls Tryd.prog 1 77 [.slice A 3 c] H k (Same H k (hv d)) :=
  ⟨shaD [97, 98, 99], awake2, fun H k A c ht hs => sum_b H k ht [97, 98, 99] A c hs (by decide)⟩
theorem digs_inj : ∀ m : Nat, m < 16 → ∀ n : Nat, n < 16 → digs.getD m 0 = digs.getD n 0 → m = n := by decide +kernel
theorem digs_one : ∀ n : Nat, n < 16 → (digs.drop n).take (n + 1 - n) = [digs.getD n 0] := by decide +kernel
theorem hexC_inj {a b : UInt8} (h : hexC a = hexC b) : a = b := by
  simp only [hexC, List.cons.injEq, and_true] at h
  have ha := a.toNat_lt
  have hb := b.toNat_lt
  have h1 := digs_inj _ (by omega) _ (by omega) h.1
  have h2 := digs_inj _ (by omega) _ (by omega) h.2
  exact UInt8.toNat_inj.1 (by omega)
theorem hexB_inj : ∀ {a b : List UInt8}, hexB a = hexB b → a = b
  | [], [], _ => rfl
  | [], _ :: _, h => by simp [hexB, hexC] at h
  | _ :: _, [], h => by simp [hexB, hexC] at h
  | x :: a, y :: b, h => by
    have h' : hexC x ++ hexB a = hexC y ++ hexB b := h
    obtain ⟨h1, h2⟩ := List.append_inj h' rfl
    rw [hexC_inj h1, hexB_inj h2]
theorem hex_same (a b : Dg) : decide (hexB a.l = hexB b.l) = decide (a = b) := by
  rw [Bool.eq_iff_iff, decide_eq_true_eq, decide_eq_true_eq]
  exact ⟨fun h => Dg.ext_ (hexB_inj h), fun h => by rw [h]⟩
theorem flat_bound {ls : List (List UInt8)} {m : Nat} : ∀ i, i ≤ ls.length → (∀ j, j < i → (ls.getD j []).length ≤ m) → (ls.take i).flatten.length ≤ m * i
  | 0, _, _ => by simp
  | i + 1, h, hm => by
    rw [flat_take (by omega), List.length_append]
    have := flat_bound i (by omega) fun j hj => hm j (by omega)
    have := hm i (by omega)
    rw [Nat.mul_add]
    omega
section
variable (H : Hp) (k : Nat)


end

end Go.Proofs.YtipaiielkpifoaaDoor
