/- Trees of digests, in plain Lean: a leaf's digest, a node's, the greatest power of two below a number, the root, paths, folds; rules for slices that are cut. No condition. -/
import Derived.Test.YtipaiielkpifoaaDoorS8
set_option linter.unusedVariables false
set_option linter.unusedSimpArgs false
set_option maxRecDepth 100000
namespace Go.Proofs.YtipaiielkpifoaaDoor
open Go Go.Ab

def lf (b : List UInt8) : Dg := shaD (0 :: b)
def nd (a b : Dg) : Dg := shaD (1 :: (a.l ++ b.l))
def spN (n : Nat) : Nat := 2 ^ Nat.log2 (n - 1)
theorem spN_spec {n : Nat} (h : 2 ≤ n) : 1 ≤ spN n ∧ spN n < n ∧ n ≤ 2 * spN n := by
  have h0 : n - 1 ≠ 0 := by omega
  have h1 := Nat.log2_self_le h0
  have h2 := @Nat.lt_log2_self (n - 1)
  have h3 : 0 < 2 ^ Nat.log2 (n - 1) := Nat.pow_pos (by omega)
  rw [Nat.pow_succ] at h2
  unfold spN
  omega
/-- How far the document's doubling has come. -/
theorem sp_step {n i : Nat} (h : 2 ≤ n) (hi : i ≤ Nat.log2 (n - 1)) : (2 ^ i < n - 2 ^ i ↔ i < Nat.log2 (n - 1)) ∧ 2 ^ i < n := by
  have h0 : n - 1 ≠ 0 := by omega
  have h1 := Nat.log2_self_le h0
  have h2 := @Nat.lt_log2_self (n - 1)
  have h3 : 2 ^ i ≤ 2 ^ Nat.log2 (n - 1) := Nat.pow_le_pow_right (by omega) hi
  refine ⟨⟨fun hc => ?_, fun hl => ?_⟩, by omega⟩
  · apply Nat.lt_of_not_le
    intro hl
    have : i = Nat.log2 (n - 1) := by omega
    rw [← this, Nat.pow_succ] at h2
    omega
  · have h4 : 2 ^ (i + 1) ≤ 2 ^ Nat.log2 (n - 1) := Nat.pow_le_pow_right (by omega) hl
    rw [Nat.pow_succ] at h4
    omega

/-! ### The length of a number's bits -/
def lenN (x : Nat) : Nat := if x = 0 then 0 else Nat.log2 x + 1
theorem lenN_le {x : Nat} (n : Nat) (h : x < 2 ^ n) : lenN x ≤ n := by
  unfold lenN
  split
  · omega
  · rename_i h0
    exact (Nat.log2_lt h0).2 h
theorem lenN_shift {x : Nat} (j : Nat) (h : 2 ^ j ≤ x) : lenN x = lenN (x / 2 ^ j) + j := by
  have hp : 0 < 2 ^ j := Nat.pow_pos (by omega)
  have h0 : x ≠ 0 := by omega
  have h1 : 1 ≤ x / 2 ^ j := (Nat.le_div_iff_mul_le hp).2 (by omega)
  have h2 : x / 2 ^ j ≠ 0 := by omega
  rw [lenN, lenN, if_neg h0, if_neg h2]
  have h3 := Nat.log2_self_le h2
  have h4 := @Nat.lt_log2_self (x / 2 ^ j)
  rw [show Nat.log2 x = Nat.log2 (x / 2 ^ j) + j from (Nat.log2_eq_iff h0).2 ⟨?_, ?_⟩]
  · omega
  · rw [Nat.pow_add]
    exact Nat.le_trans (Nat.mul_le_mul_right _ h3) (Nat.div_mul_le_self _ _)
  · rw [show Nat.log2 (x / 2 ^ j) + j + 1 = (Nat.log2 (x / 2 ^ j) + 1) + j by omega, Nat.pow_add]
    exact (Nat.div_lt_iff_lt_mul hp).1 h4
def lenTab : List UInt8 := [0, 1, 2, 2, 3, 3, 3, 3] ++ List.replicate 8 4 ++ List.replicate 16 5 ++ List.replicate 32 6 ++ List.replicate 64 7 ++ List.replicate 128 8
theorem lenTab_at : ∀ x, x < 256 → (lenTab.getD x 0).toNat = lenN x := by decide +kernel

/-! ### Trees -/
def root (l : List (List UInt8)) : Dg :=
  if h : 2 ≤ l.length then nd (root (l.take (spN l.length))) (root (l.drop (spN l.length)))
  else match l with
    | [] => shaD []
    | b :: _ => lf b
termination_by l.length
decreasing_by all_goals (have := spN_spec h; simp; omega)
theorem root_nil : root [] = shaD [] := by rw [root]; rfl
theorem root_one (b : List UInt8) : root [b] = lf b := by rw [root]; rfl
theorem root_two {l : List (List UInt8)} (h : 2 ≤ l.length) : root l = nd (root (l.take (spN l.length))) (root (l.drop (spN l.length))) := by
  rw [root, dif_pos h]
/-- The path of a leaf that there is. -/
def pathT (l : List (List UInt8)) (i : Nat) : List Dg :=
  if h : 2 ≤ l.length then
    if i < spN l.length then pathT (l.take (spN l.length)) i ++ [root (l.drop (spN l.length))]
    else pathT (l.drop (spN l.length)) (i - spN l.length) ++ [root (l.take (spN l.length))]
  else []
termination_by l.length
decreasing_by all_goals (have := spN_spec h; simp; omega)
theorem pathT_one {l : List (List UInt8)} {i : Nat} (h : l.length = 1) : pathT l i = [] := by rw [pathT, dif_neg (by omega)]
theorem pathT_l {l : List (List UInt8)} {i : Nat} (h : 2 ≤ l.length) (hi : i < spN l.length) : pathT l i = pathT (l.take (spN l.length)) i ++ [root (l.drop (spN l.length))] := by
  rw [pathT, dif_pos h, if_pos hi]
theorem pathT_r {l : List (List UInt8)} {i : Nat} (h : 2 ≤ l.length) (hi : ¬ i < spN l.length) : pathT l i = pathT (l.drop (spN l.length)) (i - spN l.length) ++ [root (l.take (spN l.length))] := by
  rw [pathT, dif_pos h, if_neg hi]
/-! ### Slices that are cut -/
theorem SLC.cutL {H : Hp} {c0 : Nat} {A0 : Option Addr} {vs : List Value} (hS : SLC H 1 A0 vs.length c0 vs) (k : Nat) (m : Option Nat) (h : k ≤ vs.length) (hm : ∀ x, m = some x → k ≤ x ∧ x ≤ vs.length) :
    ∃ A c, aslice H 1 0 k m (.slice A0 vs.length c0) = some (.slice A (vs.take k).length c) ∧ SLC H 1 A (vs.take k).length c (vs.take k) := by
  obtain ⟨A, c, h1, h2⟩ := SLC.cut hS 0 k m (Nat.zero_le _) h hm
  have e : (vs.take k).length = k - 0 := by rw [List.length_take]; omega
  rw [Nat.zero_mul, List.drop_zero, Nat.mul_one, Nat.sub_zero] at h2
  exact ⟨A, c, by rw [e]; exact h1, by rw [e]; exact h2⟩
theorem SLC.cutR {H : Hp} {c0 : Nat} {A0 : Option Addr} {vs : List Value} (hS : SLC H 1 A0 vs.length c0 vs) (k : Nat) (m : Option Nat) (h : k ≤ vs.length) (hm : ∀ x, m = some x → vs.length ≤ x ∧ x ≤ vs.length) :
    ∃ A c, aslice H 1 k vs.length m (.slice A0 vs.length c0) = some (.slice A (vs.drop k).length c) ∧ SLC H 1 A (vs.drop k).length c (vs.drop k) := by
  obtain ⟨A, c, h1, h2⟩ := SLC.cut hS k vs.length m h (Nat.le_refl _) hm
  have e : (vs.drop k).length = vs.length - k := by rw [List.length_drop]
  rw [Nat.mul_one, Nat.mul_one, List.take_of_length_le (by rw [List.length_drop]; exact Nat.le_refl _)] at h2
  exact ⟨A, c, by rw [e]; exact h1, by rw [e]; exact h2⟩
theorem Lvs.take {H : Hp} {vs : List Value} {ls : List (List UInt8)} (h : Lvs H vs ls) (k : Nat) : Lvs H (vs.take k) (ls.take k) :=
  ⟨by rw [List.length_take, List.length_take, h.len], fun i hi => by
    rw [List.length_take] at hi
    have e1 : (vs.take k).getD i undef = vs.getD i undef := by rw [List.getD_eq_getElem?_getD, List.getD_eq_getElem?_getD, List.getElem?_take_of_lt (by omega)]
    have e2 : (ls.take k).getD i [] = ls.getD i [] := by rw [List.getD_eq_getElem?_getD, List.getD_eq_getElem?_getD, List.getElem?_take_of_lt (by omega)]
    rw [e1, e2]
    exact h.at_ i (by omega)⟩
theorem Lvs.drop {H : Hp} {vs : List Value} {ls : List (List UInt8)} (h : Lvs H vs ls) (k : Nat) : Lvs H (vs.drop k) (ls.drop k) :=
  ⟨by rw [List.length_drop, List.length_drop, h.len], fun i hi => by
    rw [List.length_drop] at hi
    have e1 : (vs.drop k).getD i undef = vs.getD (k + i) undef := by rw [List.getD_eq_getElem?_getD, List.getD_eq_getElem?_getD, List.getElem?_drop]
    have e2 : (ls.drop k).getD i [] = ls.getD (k + i) [] := by rw [List.getD_eq_getElem?_getD, List.getD_eq_getElem?_getD, List.getElem?_drop]
    rw [e1, e2]
    exact h.at_ (k + i) (by omega)⟩
/-- The whole of an array in memory as a slice. -/
theorem AOp.sliceA {P : Program} {NG : Nat} {fr : Fr} {H : Hp} {nk : Nat} {R : Value → Hp → Nat → Prop} {o : Oper} {t : TypeId} {x : Operand} {n0 z n : Nat} {agg : Bool} (ho : o.op = .slice t x none none none) [hf : ArrInfo P t n0 agg z] (hx : aeval NG fr x = some (.pointer (some ⟨n, 0, none⟩)))
    (hR : R (.slice (some ⟨n, 0, none⟩) n0 n0) H nk) : AOp P NG o ⟨fr, H, nk⟩ R :=
  AOp.slice_arr (l := 0) (h := n0) ho hf.h hx (bnd_no rfl) (bnd_no rfl) (Nat.zero_le _) (Nat.le_refl _) (by rw [Nat.zero_mul, Nat.sub_zero]; show R (.slice (some ⟨n, (if n0 = 0 then 0 else 0), none⟩) n0 n0) H nk; rw [ite_self]; exact hR)
end Go.Proofs.YtipaiielkpifoaaDoor
