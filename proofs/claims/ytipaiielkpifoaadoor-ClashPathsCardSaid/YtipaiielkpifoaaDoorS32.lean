/- Texts that are digested for a root, in plain Lean: two lists of as many leaves with one root are the same, or two of their texts have one digest. Lists of texts in memory that grow. No condition. -/
import Derived.Test.YtipaiielkpifoaaDoorS20
set_option linter.unusedVariables false
set_option linter.unusedSimpArgs false
set_option maxRecDepth 100000
namespace Go.Proofs.YtipaiielkpifoaaDoor
open Go Go.Ab

def nodeB (a b : Dg) : List UInt8 := 1 :: (a.l ++ b.l)
def textsT (l : List (List UInt8)) : List (List UInt8) :=
  if h : 2 ≤ l.length then textsT (l.take (spN l.length)) ++ textsT (l.drop (spN l.length)) ++ [nodeB (root (l.take (spN l.length))) (root (l.drop (spN l.length)))]
  else match l with
    | [] => [[]]
    | b :: _ => [0 :: b]
termination_by l.length
decreasing_by all_goals (have := spN_spec h; simp; omega)
theorem textsT_nil : textsT [] = [[]] := by rw [textsT]; rfl
theorem textsT_one (b : List UInt8) : textsT [b] = [0 :: b] := by rw [textsT]; rfl
theorem textsT_two {l : List (List UInt8)} (h : 2 ≤ l.length) : textsT l = textsT (l.take (spN l.length)) ++ textsT (l.drop (spN l.length)) ++ [nodeB (root (l.take (spN l.length))) (root (l.drop (spN l.length)))] := by
  rw [textsT, dif_pos h]
def clashT (l : List (List UInt8)) : Bool := decide (∃ x ∈ l, ∃ y ∈ l, x ≠ y ∧ shaD x = shaD y)
/-- Two lists of as many leaves with one root. -/
theorem roots_tell : ∀ (N : Nat) (a b : List (List UInt8)), a.length < N → a.length = b.length → root a = root b → a ≠ b → ∃ x ∈ textsT a, ∃ y ∈ textsT b, x ≠ y ∧ shaD x = shaD y
  | 0, a, b, h, _, _, _ => by omega
  | N + 1, a, b, h, hl, hr, hne => by
    by_cases h2 : 2 ≤ a.length
    · obtain ⟨s1, s2, s3⟩ := spN_spec h2
      have hb2 : 2 ≤ b.length := by omega
      rw [textsT_two h2, textsT_two hb2]
      rw [root_two h2, root_two hb2] at hr
      by_cases hn : nodeB (root (a.take (spN a.length))) (root (a.drop (spN a.length))) = nodeB (root (b.take (spN b.length))) (root (b.drop (spN b.length)))
      · have e := (List.cons.inj hn).2
        obtain ⟨e1, e2⟩ := List.append_inj e (by rw [Dg.h, Dg.h])
        have r1 := Dg.ext_ e1
        have r2 := Dg.ext_ e2
        rw [← hl] at r1 r2 ⊢
        have hta : (a.take (spN a.length)).length = spN a.length := by rw [List.length_take]; omega
        have htb : (b.take (spN a.length)).length = spN a.length := by rw [List.length_take]; omega
        have hda : (a.drop (spN a.length)).length = a.length - spN a.length := List.length_drop
        have hdb : (b.drop (spN a.length)).length = b.length - spN a.length := List.length_drop
        by_cases ht : a.take (spN a.length) = b.take (spN a.length)
        · have hd : a.drop (spN a.length) ≠ b.drop (spN a.length) := fun hd => hne (by rw [← List.take_append_drop (spN a.length) a, ht, hd, List.take_append_drop])
          obtain ⟨x, hx, y, hy, h1, h2⟩ := roots_tell N _ _ (by omega) (by omega) r2 hd
          exact ⟨x, by simp [hx], y, by simp [hy], h1, h2⟩
        · obtain ⟨x, hx, y, hy, h1, h2⟩ := roots_tell N _ _ (by omega) (by omega) r1 ht
          exact ⟨x, by simp [hx], y, by simp [hy], h1, h2⟩
      · exact ⟨_, by simp, _, by simp, hn, hr⟩
    · match a, b, hl, h2, hr, hne with
      | [], [], _, _, _, hne => exact absurd rfl hne
      | [x], [y], _, _, hr, hne =>
        rw [root_one, root_one] at hr
        rw [textsT_one, textsT_one]
        exact ⟨0 :: x, by simp, 0 :: y, by simp, fun e => hne (by rw [(List.cons.inj e).2]), hr⟩
      | x :: y :: r, _, _, h2, _, _ => exact absurd (by simp) h2
theorem tell_clash {a b : List (List UInt8)} (hl : a.length = b.length) (hr : root a = root b) (hne : a ≠ b) : clashT (textsT a ++ textsT b) = true := by
  obtain ⟨x, hx, y, hy, h1, h2⟩ := roots_tell (a.length + 1) a b (by omega) hl hr hne
  exact decide_eq_true ⟨x, by simp [hx], y, by simp [hy], h1, h2⟩

/-! ### Lists of texts that grow: the texts lie in new blocks -/
/-- What there is from a number on, but for one block. -/
def resH (H : Hp) (k q : Nat) : Hp := fun n => if k ≤ n ∧ n ≠ q then H n else none
/-- A new list of new texts. -/
def NewT (H : Hp) (k : Nat) (e : TypeId) (ls : List (List UInt8)) (v : Value) (H' : Hp) (k' : Nat) : Prop :=
  ∃ q vs, k ≤ q ∧ q < k' ∧ v = .slice (some ⟨q, 0, some 1⟩) vs.length vs.length ∧ Ab.Sub H H' ∧ (∀ n, k' ≤ n → H' n = none) ∧ H' q = some { cells := vs, elem := e, kind := .grow } ∧ Lvs (resH H' k q) vs ls
theorem resH_sub (H : Hp) (k q : Nat) : Ab.Sub (resH H k q) H := fun n b hb => by
  unfold resH at hb
  split at hb
  · exact hb
  · cases hb
theorem Lvs.append {H : Hp} {vs ws : List Value} {ls ms : List (List UInt8)} (h1 : Lvs H vs ls) (h2 : Lvs H ws ms) : Lvs H (vs ++ ws) (ls ++ ms) :=
  ⟨by rw [List.length_append, List.length_append, h1.len, h2.len], fun i hi => by
    rw [List.length_append] at hi
    by_cases h : i < ls.length
    · have e1 : (vs ++ ws).getD i undef = vs.getD i undef := by rw [List.getD_eq_getElem?_getD, List.getD_eq_getElem?_getD, List.getElem?_append_left (by rw [h1.len]; exact h)]
      have e2 : (ls ++ ms).getD i [] = ls.getD i [] := by rw [List.getD_eq_getElem?_getD, List.getD_eq_getElem?_getD, List.getElem?_append_left h]
      rw [e1, e2]
      exact h1.at_ i h
    · have e1 : (vs ++ ws).getD i undef = ws.getD (i - ls.length) undef := by rw [List.getD_eq_getElem?_getD, List.getD_eq_getElem?_getD, List.getElem?_append_right (by rw [h1.len]; omega), h1.len]
      have e2 : (ls ++ ms).getD i [] = ms.getD (i - ls.length) [] := by rw [List.getD_eq_getElem?_getD, List.getD_eq_getElem?_getD, List.getElem?_append_right (by omega)]
      rw [e1, e2]
      exact h2.at_ (i - ls.length) (by omega)⟩
end Go.Proofs.YtipaiielkpifoaaDoor
