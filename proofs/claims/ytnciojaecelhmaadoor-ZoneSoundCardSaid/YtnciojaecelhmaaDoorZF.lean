/- More rules over the abstract states: a slice against nil, whatever it is; a copy of a slice; cells put into a list's. No condition; over any program. -/
import Derived.Test.YtnciojaecelhmaaDoorF2
set_option linter.unusedVariables false
set_option linter.unusedSimpArgs false
namespace Go.Ab
open Go.RowKit
section
variable {P : Program} {NG : Nat} {o : Oper} {fr : Fr} {H : Hp} {nk : Nat} {R : Value → Hp → Nat → Prop}
theorem AOp.quietX (h : ∀ (N B : Nat) (w0 : World) (G : GMap) (a : Act) (w : World), StRel NG N B w0 G ⟨fr, H, nk⟩ a w → ∃ v v', R v H nk ∧ (execOp a.eval o).run P w = .ok (.value v') w ∧ VRel G v v') : AOp P NG o ⟨fr, H, nk⟩ R := by
  intro N B w0 G a w hs next Q hn
  obtain ⟨v, v', hR, hr, hv⟩ := h N B w0 G a w hs
  unfold Oper.wp
  rw [hr]
  exact hn v v' H nk G w hR hv hs.S (Keep.refl _ _ _ _)
/-- A slice against nil: what is not empty is not nil. -/
theorem AOp.eqNilX {t t' e : TypeId} {z : Nat} {x y : Operand} {l c : Nat} {A : Option Addr} (ho : o.op = .binOp .eql t x y t') [hd : SlInfo P t e z] (hx : aeval NG fr x = some (.slice A l c)) (hy : aeval NG fr y = some (.slice none 0 0))
    (hR : ∀ b : Bool, (0 < l → b = false) → R (.bool b) H nk) : AOp P NG o ⟨fr, H, nk⟩ R := by
  refine AOp.quietX fun N B w0 G a w hs1 => ?_
  have hp := aeval_rel hs1 hx
  have hq := (aeval_rel hs1 hy).plain_ rfl
  have hu := (slB_inv hd.h).1
  obtain ⟨A', c', hA, hl⟩ : ∃ A' c', a.eval x = .slice A' l c' ∧ (0 < l → A' ≠ none) := by
    generalize a.eval x = p at hp
    cases hp with
    | plain h =>
      cases A with
      | none =>
        refine ⟨none, c, rfl, fun h0 => ?_⟩
        cases l with
        | zero => omega
        | succ l => cases c <;> simp [isPlain] at h
      | some a => simp [isPlain] at h
    | exact hg => exact ⟨_, _, rfl, fun _ h => by cases h⟩
    | loose hg hc hA => exact ⟨_, _, rfl, fun h0 h => by rw [hA h0] at h; cases h⟩
    | grow hg hl =>
      refine ⟨_, _, rfl, fun h0 h => ?_⟩
      rcases hl with ⟨h1, _⟩ | ⟨r, _, hA, _⟩
      · omega
      · rw [hA] at h; cases h
    | gcut hg hl =>
      refine ⟨_, _, rfl, fun h0 h => ?_⟩
      obtain ⟨r, _, hA, _⟩ := hl.2 h0
      rw [hA] at h; cases h
  have h2 : (eqGuard .eql t x y (.slice A' l c') (.slice none 0 0)).run P w = .ok () w := by cases A' <;> simp [eqGuard]
  cases A' with
  | none =>
    have h1 : (Op.equalIn (9999 + 1) t (.slice none l c') (.slice none 0 0)).run P w = .ok true w := by
      rw [Op.equalIn, Sem.run_bind, run_underlying hu]
      rfl
    have h3 : (binOp .eql t (.slice none l c') (.slice none 0 0)).run P w = .ok (.bool true) w := by
      simp only [binOp]
      simp [Op.equal, Op.maxDepth, h1]
    refine ⟨.bool true, .bool true, hR true (fun h0 => absurd rfl (hl h0)), ?_, .plain rfl⟩
    simp only [execOp, ho, hA, hq]
    rw [Sem.run_bind, Sem.run_bind, h2]
    simp only [Result.andThen_ok, h3]
    rfl
  | some ad =>
    have h1 : (Op.equalIn (9999 + 1) t (.slice (some ad) l c') (.slice none 0 0)).run P w = .ok false w := by
      rw [Op.equalIn, Sem.run_bind, run_underlying hu]
      rfl
    have h3 : (binOp .eql t (.slice (some ad) l c') (.slice none 0 0)).run P w = .ok (.bool false) w := by
      simp only [binOp]
      simp [Op.equal, Op.maxDepth, h1]
    refine ⟨.bool false, .bool false, hR false (fun _ => rfl), ?_, .plain rfl⟩
    simp only [execOp, ho, hA, hq]
    rw [Sem.run_bind, Sem.run_bind, h2]
    simp only [Result.andThen_ok, h3]
    rfl
theorem AOp.sliceP {t : TypeId} {x : Operand} {n0 z n off : Nat} {agg : Bool} (ho : o.op = .slice t x none none none) [hf : ArrInfo P t n0 agg z] (hx : aeval NG fr x = some (.pointer (some ⟨n, off, none⟩)))
    (hR : R (.slice (some ⟨n, off, none⟩) n0 n0) H nk) : AOp P NG o ⟨fr, H, nk⟩ R :=
  AOp.slice_arr (l := 0) (h := n0) ho hf.h hx (bnd_no rfl) (bnd_no rfl) (Nat.zero_le _) (Nat.le_refl _) (by rw [Nat.zero_mul, Nat.sub_zero, Nat.add_zero, ite_self]; exact hR)
theorem AOp.appendN {x y : Operand} {t tx e : TypeId} {sz bytes m : Nat} {A0 : Option Addr} {yv : Value} {news : List Value} (ho : o.op = .call { callee := .builtin .append, args := #[x, y], argTypes := #[t, tx] }) [he : ElemInfo P t e sz bytes]
    (hx : aeval NG fr x = some (.slice A0 0 0)) (hy : aeval NG fr y = some yv) (hsrc : srcOf H sz yv = some (m, news)) (hA0 : ∀ ad, A0 = some ad → ad.spot = none) (hm : 0 < m)
    (ht : srcOk P tx yv = true) (h1 : ∀ u ∈ news, u.oneCell' = true) (hb : m * bytes ≤ 140737488355328) (h63 : m ≤ 9223372036854775807)
    (hR : R (.slice (some ⟨nk, 0, some 0⟩) m m) (upd H nk (some { cells := news, elem := e, kind := .fix })) (nk + 1)) : AOp P NG o ⟨fr, H, nk⟩ R :=
  AOp.append_new ho he.h hx hA0 hm hy hsrc ht h1 hb h63 hR
end
theorem at_bs {X : Hp} {n m nk : Nat} {b : Blk} (h : X n = some b) : X (nmC nk m [n] m) = upd (fun _ => none) m (some b) m := by
  have e : nmC nk m [n] m = n := by
    unfold nmC
    rw [if_neg (Nat.lt_irrefl _), Nat.sub_self]
    rfl
  rw [e, upd_same]
  exact h
theorem old_only1 {H : Hp} {n m nk : Nat} : ∀ (q : Nat) (b : Blk), (upd H n none) q = some b → H q = some b ∧ q ∉ [m].map (nmC nk m [n]) := fun q b hq => by
  by_cases e : q = n
  · subst e; rw [upd_same] at hq; cases hq
  · rw [upd_other _ _ e] at hq
    refine ⟨hq, fun hx => ?_⟩
    rw [List.map_singleton, List.mem_singleton] at hx
    unfold nmC at hx
    rw [if_neg (Nat.lt_irrefl _), Nat.sub_self] at hx
    exact e hx
theorem flat_set {α : Type} {f : α → List Value} {z : Nat} (hz : ∀ a, (f a).length = z) : ∀ (l : List α) (i : Nat) (a : α), i < l.length → putL (l.flatMap f) (i * z) (f a) = (l.set i a).flatMap f
  | x :: l, 0, a, _ => by
    rw [Nat.zero_mul, putL, List.take_zero, List.nil_append, Nat.zero_add, List.flatMap_cons, hz a, List.drop_left' (hz x), List.set_cons_zero, List.flatMap_cons]
  | x :: l, i + 1, a, h => by
    have ih := flat_set hz l i a (by simpa using h)
    rw [List.set_cons_succ, List.flatMap_cons, List.flatMap_cons, ← ih]
    unfold putL
    rw [Nat.succ_mul, List.take_append, List.drop_append, hz x, hz a, Nat.add_sub_cancel, List.take_of_length_le (by rw [hz x]; omega), List.drop_of_length_le (by rw [hz x]; omega), List.nil_append, show i * z + z + z - z = i * z + z by omega, List.append_assoc, List.append_assoc, List.append_assoc]
theorem flat_set1 {α : Type} {f : α → List Value} {z d : Nat} {v : Value} (hz : ∀ a, (f a).length = z) (l : List α) (i : Nat) (a : α) (hi : i < l.length) (hd : d < z) (hv : (f l[i]).set d v = f a) : (l.flatMap f).set (i * z + d) v = (l.set i a).flatMap f := by
  rw [← flat_set hz l i a hi, ← hv]
  have hp := flatMap_piece hz l i hi
  have hl := flatMap_len hz l
  have hle : (i + 1) * z ≤ l.length * z := Nat.mul_le_mul_right _ hi
  rw [Nat.succ_mul] at hle
  apply List.ext_getElem?
  intro j
  rw [putL_get (by rw [List.length_set, hz, hl]; exact hle), List.length_set, hz]
  by_cases hj : j = i * z + d
  · subst hj
    rw [List.getElem?_set_self (by rw [hl]; omega), if_pos ⟨by omega, by omega⟩, show i * z + d - i * z = d by omega, List.getElem?_set_self (by rw [hz]; exact hd)]
  · rw [List.getElem?_set_ne (Ne.symm hj)]
    by_cases h2 : i * z ≤ j ∧ j < i * z + z
    · rw [if_pos h2, List.getElem?_set_ne (by omega), ← hp, List.getElem?_take, if_pos (by omega), List.getElem?_drop]
      congr 1
      omega
    · rw [if_neg h2]
theorem made_flat {z : Array Value} {n k : Nat} (hz : z.size = k) (h0 : 0 < k) : (madeCells z (n * k)).toList = (List.replicate n z.toList).flatten := by
  apply List.ext_getElem?
  intro j
  have hfl : ∀ (n j : Nat), (List.replicate n z.toList).flatten[j]? = if j < n * k then some (z[j % k]'(by rw [hz]; exact Nat.mod_lt _ h0)) else none := by
    intro n
    induction n with
    | zero => intro j; simp
    | succ n ih =>
      intro j
      rw [List.replicate_succ, List.flatten_cons]
      by_cases hj : j < k
      · rw [List.getElem?_append_left (by rw [Array.length_toList, hz]; exact hj), if_pos (by rw [Nat.succ_mul]; omega), Array.getElem?_toList, Array.getElem?_eq_getElem (by rw [hz]; exact hj)]
        congr 1
        simp only [Nat.mod_eq_of_lt hj]
      · have e9 : j - z.toList.length = j - k := by rw [Array.length_toList, hz]
        rw [List.getElem?_append_right (by rw [Array.length_toList, hz]; omega), e9, ih]
        by_cases h2 : j < (n + 1) * k
        · rw [if_pos (by rw [Nat.succ_mul] at h2; omega), if_pos h2]
          congr 1
          have : j % k = (j - k) % k := by
            rw [← Nat.add_mod_right (j - k) k]
            congr 1
            omega
          simp only [this]
        · rw [if_neg (by rw [Nat.succ_mul] at h2; omega), if_neg h2]
  rw [hfl, Array.getElem?_toList]
  by_cases hj : j < n * k
  · rw [if_pos hj, Array.getElem?_eq_getElem (by simpa [madeCells] using hj)]
    congr 1
    simp only [madeCells, Array.getElem_map, Array.getElem_range]
    have hm : j % z.size < z.size := Nat.mod_lt _ (by omega)
    rw [getElem!_pos z (j % z.size) hm]
    simp only [hz]
  · rw [if_neg hj, Array.getElem?_eq_none (by simpa [madeCells] using hj)]
end Go.Ab
