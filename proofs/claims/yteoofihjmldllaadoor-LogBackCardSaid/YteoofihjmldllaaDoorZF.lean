/- More rules over the abstract states: a slice against nil, whatever it is; a copy of a slice; cells put into a list's. No condition; over any program. -/
import Derived.Test.YteoofihjmldllaaDoorF2
set_option linter.unusedVariables false
set_option linter.unusedSimpArgs false
namespace Go.Ab
open Go.RowKit
section
variable {P : Program} {NG : Nat} {o : Oper} {fr : Fr} {H : Hp} {nk : Nat} {R : Value → Hp → Nat → Prop}
theorem AOp.quietX (h : ∀ (N B : Nat) (w0 : World) (G : GMap) (a : Act) (w : World), StRel NG N B w0 G ⟨fr, H, nk⟩ a w → ∃ v v', R v H nk ∧ (execOp a.eval o).run P w = .ok (.value v') w ∧ VRel G v v') : AOp P NG o ⟨fr, H, nk⟩ R := by
  intro N B w0 G a w hs next Q hn
  obtain ⟨v, v', hR, hr, hv⟩ := h N B w0 G a w hs
  unfold Oper.wp
  rw [hr]
  exact hn v v' H nk G w hR hv hs.S (Keep.refl _ _ _ _)
/-- A slice against nil: what is not empty is not nil. -/
theorem AOp.eqNilX {t t' e : TypeId} {z : Nat} {x y : Operand} {l c : Nat} {A : Option Addr} (ho : o.op = .binOp .eql t x y t') [hd : SlInfo P t e z] (hx : aeval NG fr x = some (.slice A l c)) (hy : aeval NG fr y = some (.slice none 0 0))
    (hR : ∀ b : Bool, (0 < l → b = false) → R (.bool b) H nk) : AOp P NG o ⟨fr, H, nk⟩ R := by
  refine AOp.quietX fun N B w0 G a w hs1 => ?_
  have hp := aeval_rel hs1 hx
  have hq := (aeval_rel hs1 hy).plain_ rfl
  have hu := (slB_inv hd.h).1
  obtain ⟨A', c', hA, hl⟩ : ∃ A' c', a.eval x = .slice A' l c' ∧ (0 < l → A' ≠ none) := by
    generalize a.eval x = p at hp
    cases hp with
    | plain h =>
      cases A with
      | none =>
        refine ⟨none, c, rfl, fun h0 => ?_⟩
        cases l with
        | zero => omega
        | succ l => cases c <;> simp [isPlain] at h
      | some a => simp [isPlain] at h
    | exact hg => exact ⟨_, _, rfl, fun _ h => by cases h⟩
    | loose hg hc hA => exact ⟨_, _, rfl, fun h0 h => by rw [hA h0] at h; cases h⟩
    | grow hg hl =>
      refine ⟨_, _, rfl, fun h0 h => ?_⟩
      rcases hl with ⟨h1, _⟩ | ⟨r, _, hA, _⟩
      · omega
      · rw [hA] at h; cases h
    | gcut hg hl =>
      refine ⟨_, _, rfl, fun h0 h => ?_⟩
      obtain ⟨r, _, hA, _⟩ := hl.2 h0
      rw [hA] at h; cases h
  have h2 : (eqGuard .eql t x y (.slice A' l c') (.slice none 0 0)).run P w = .ok () w := by cases A' <;> simp [eqGuard]
  cases A' with
  | none =>
    have h1 : (Op.equalIn (9999 + 1) t (.slice none l c') (.slice none 0 0)).run P w = .ok true w := by
      rw [Op.equalIn, Sem.run_bind, run_underlying hu]
      rfl
    have h3 : (binOp .eql t (.slice none l c') (.slice none 0 0)).run P w = .ok (.bool true) w := by
      simp only [binOp]
      simp [Op.equal, Op.maxDepth, h1]
    refine ⟨.bool true, .bool true, hR true (fun h0 => absurd rfl (hl h0)), ?_, .plain rfl⟩
    simp only [execOp, ho, hA, hq]
    rw [Sem.run_bind, Sem.run_bind, h2]
    simp only [Result.andThen_ok, h3]
    rfl
  | some ad =>
    have h1 : (Op.equalIn (9999 + 1) t (.slice (some ad) l c') (.slice none 0 0)).run P w = .ok false w := by
      rw [Op.equalIn, Sem.run_bind, run_underlying hu]
      rfl
    have h3 : (binOp .eql t (.slice (some ad) l c') (.slice none 0 0)).run P w = .ok (.bool false) w := by
      simp only [binOp]
      simp [Op.equal, Op.maxDepth, h1]
    refine ⟨.bool false, .bool false, hR false (fun _ => rfl), ?_, .plain rfl⟩
    simp only [execOp, ho, hA, hq]
    rw [Sem.run_bind, Sem.run_bind, h2]
    simp only [Result.andThen_ok, h3]
    rfl
theorem AOp.appendN {x y : Operand} {t tx e : TypeId} {sz bytes m : Nat} {A0 : Option Addr} {yv : Value} {news : List Value} (ho : o.op = .call { callee := .builtin .append, args := #[x, y], argTypes := #[t, tx] }) [he : ElemInfo P t e sz bytes]
    (hx : aeval NG fr x = some (.slice A0 0 0)) (hy : aeval NG fr y = some yv) (hsrc : srcOf H sz yv = some (m, news)) (hA0 : ∀ ad, A0 = some ad → ad.spot = none) (hm : 0 < m)
    (ht : srcOk P tx yv = true) (h1 : ∀ u ∈ news, u.oneCell' = true) (hb : m * bytes ≤ 140737488355328) (h63 : m ≤ 9223372036854775807)
    (hR : R (.slice (some ⟨nk, 0, some 0⟩) m m) (upd H nk (some { cells := news, elem := e, kind := .fix })) (nk + 1)) : AOp P NG o ⟨fr, H, nk⟩ R :=
  AOp.append_new ho he.h hx hA0 hm hy hsrc ht h1 hb h63 hR
end
end Go.Ab
