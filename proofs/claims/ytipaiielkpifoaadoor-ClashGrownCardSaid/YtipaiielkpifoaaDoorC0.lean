/- Two texts of one digest, in plain Lean: where leaves, paths, proofs or heads tell them. No condition. -/
import Derived.Test.YtipaiielkpifoaaDoorS32
import Derived.Test.YtipaiielkpifoaaDoorS24
set_option linter.unusedVariables false
set_option linter.unusedSimpArgs false
set_option maxRecDepth 100000
namespace Go.Proofs.YtipaiielkpifoaaDoor
open Go Go.Ab

def isC (x y : List UInt8) : Prop := x ≠ y ∧ shaD x = shaD y
instance (x y : List UInt8) : Decidable (isC x y) := inferInstanceAs (Decidable (_ ∧ _))
/-- Two nodes of one digest are the same, or a clash. -/
theorem node_split {a b a' b' : Dg} (h : ¬ isC (nodeB a b) (nodeB a' b')) (he : nd a b = nd a' b') : a = a' ∧ b = b' := by
  have e : nodeB a b = nodeB a' b' := Classical.byContradiction fun hne => h ⟨hne, he⟩
  obtain ⟨e1, e2⟩ := List.append_inj (List.cons.inj e).2 (by rw [Dg.h, Dg.h])
  exact ⟨Dg.ext_ e1, Dg.ext_ e2⟩
theorem leaf_isC {a b : List UInt8} (hne : a ≠ b) (he : lf a = lf b) : isC (0 :: a) (0 :: b) := ⟨fun h => hne (List.cons.inj h).2, he⟩
/-- Do leaves tell a clash? -/
def leavesOk (a b : List (List UInt8)) : Bool := decide (a.length = b.length ∧ a ≠ b ∧ root a = root b)
theorem leaves_one {a b : List (List UInt8)} (h : leavesOk a b = true) (h1 : a.length = 1) : ∃ x y, a = [x] ∧ b = [y] ∧ isC (0 :: x) (0 :: y) := by
  obtain ⟨hl, hne, hr⟩ := of_decide_eq_true h
  obtain ⟨x, rfl⟩ := List.length_eq_one_iff.1 h1
  obtain ⟨y, rfl⟩ := List.length_eq_one_iff.1 (hl ▸ h1)
  rw [root_one, root_one] at hr
  exact ⟨x, y, rfl, rfl, leaf_isC (fun e => hne (by rw [e])) hr⟩
theorem leaves_down {a b : List (List UInt8)} (h : leavesOk a b = true) (h2 : 2 ≤ a.length) (hn : ¬ isC (nodeB (root (a.take (spN a.length))) (root (a.drop (spN a.length)))) (nodeB (root (b.take (spN a.length))) (root (b.drop (spN a.length))))) :
    (a.take (spN a.length) ≠ b.take (spN a.length) → leavesOk (a.take (spN a.length)) (b.take (spN a.length)) = true) ∧ (a.take (spN a.length) = b.take (spN a.length) → leavesOk (a.drop (spN a.length)) (b.drop (spN a.length)) = true) := by
  obtain ⟨hl, hne, hr⟩ := of_decide_eq_true h
  rw [root_two h2, root_two (l := b) (by omega), ← hl] at hr
  obtain ⟨r1, r2⟩ := node_split hn hr
  refine ⟨fun ht => decide_eq_true ⟨by rw [List.length_take, List.length_take, hl], ht, r1⟩, fun ht => decide_eq_true ⟨by rw [List.length_drop, List.length_drop, hl], fun hd => hne ?_, r2⟩⟩
  rw [← List.take_append_drop (spN a.length) a, ht, hd, List.take_append_drop]
/-- A proof that is put together to the new root, and to another old one than that of the first leaves. -/
def grownIn (l : List (List UInt8)) (m : Nat) (a : Dg) (p : List Dg) (part : Bool) : Prop := 1 ≤ m ∧ m ≤ l.length ∧ p.length = sizeN m l.length part ∧ (putT m l.length a p part).2 = root l ∧ (putT m l.length a p part).1 ≠ root (l.take m)
theorem grownIn_lt {l : List (List UInt8)} {m : Nat} {a : Dg} {p : List Dg} {part : Bool} (h : grownIn l m a p part) : m < l.length := by
  obtain ⟨h1, h2, _, h3, h4⟩ := h
  rcases Nat.eq_or_lt_of_le h2 with e | e
  · rw [e, putT_eq] at h3 h4
    rw [List.take_length] at h4
    cases part with
    | true => exact absurd h3 h4
    | false => exact absurd h3 h4
  · exact e
theorem grownIn_l {l : List (List UInt8)} {m : Nat} {a : Dg} {p : List Dg} {part : Bool} (h : grownIn l m a p part) (hk : m ≤ spN l.length)
    (hn : ¬ isC (nodeB (root (l.take (spN l.length))) (root (l.drop (spN l.length)))) (nodeB (putT m (spN l.length) a (p.take (p.length - 1)) part).2 (p.getD (p.length - 1) (shaD [])))) : grownIn (l.take (spN l.length)) m a (p.take (p.length - 1)) part := by
  have hlt := grownIn_lt h
  obtain ⟨h1, h2, hs, h3, h4⟩ := h
  have hn2 : 2 ≤ l.length := by omega
  obtain ⟨s1, s2, s3⟩ := spN_spec hn2
  have ht : (l.take (spN l.length)).length = spN l.length := by rw [List.length_take]; omega
  rw [putT_l hn2 hk] at h3 h4
  rw [root_two hn2] at h3
  rw [sizeN_l hn2 hk] at hs
  obtain ⟨r1, r2⟩ := node_split hn h3.symm
  refine ⟨h1, by omega, by rw [ht, List.length_take]; omega, by rw [ht]; exact r1.symm, ?_⟩
  rw [ht, List.take_take, Nat.min_eq_left hk]
  exact h4
theorem grownIn_r {l : List (List UInt8)} {m : Nat} {a : Dg} {p : List Dg} {part : Bool} (h : grownIn l m a p part) (hk : ¬ m ≤ spN l.length)
    (hn : ¬ isC (nodeB (root (l.take (spN l.length))) (root (l.drop (spN l.length)))) (nodeB (p.getD (p.length - 1) (shaD [])) (putT (m - spN l.length) (l.length - spN l.length) a (p.take (p.length - 1)) true).2)) : grownIn (l.drop (spN l.length)) (m - spN l.length) a (p.take (p.length - 1)) true := by
  have hlt := grownIn_lt h
  obtain ⟨h1, h2, hs, h3, h4⟩ := h
  have hn2 : 2 ≤ l.length := by omega
  obtain ⟨s1, s2, s3⟩ := spN_spec hn2
  have ht : (l.drop (spN l.length)).length = l.length - spN l.length := List.length_drop
  rw [putT_r hn2 hlt hk] at h3 h4
  rw [root_two hn2] at h3
  rw [sizeN_r hn2 hlt hk] at hs
  obtain ⟨r1, r2⟩ := node_split hn h3.symm
  refine ⟨by omega, by omega, by rw [ht, List.length_take]; omega, by rw [ht]; exact r2.symm, ?_⟩
  intro e
  refine h4 ?_
  rw [ht] at e
  have hml : (l.take m).length = m := by rw [List.length_take]; omega
  have hsm : spN m = spN l.length := spN_two hn2 rfl (by omega) (by omega)
  have hr := root_two (l := l.take m) (by omega)
  rw [hml, hsm, List.take_take, Nat.min_eq_left (by omega), List.drop_take] at hr
  show nd _ _ = _
  rw [hr, ← r1, e]
end Go.Proofs.YtipaiielkpifoaaDoor
