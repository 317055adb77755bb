/- Abstract states over the model, part 13: a region whose order is open, its operations' values reckoned one by one. No condition; over any program. -/
import Derived.Test.YtlbcgadmcjobiaaDoorAb12
set_option linter.unusedVariables false
set_option linter.unusedSimpArgs false
namespace Go.Ab
open Go.RowKit

/-- A frame of what one operation looks at: slots, each with the operation that gives it, or as it was ahead of the region. -/
def useFr (env : Fr) (fr0 : Fr) : List (Nat × Option Nat) → Fr
  | [] => fun _ => none
  | (t, some j) :: U => upd (useFr env fr0 U) t (env j)
  | (t, none) :: U => upd (useFr env fr0 U) t (fr0 t)

def useOk (ops : Array Oper) (i : Nat) (U : List (Nat × Option Nat)) : Bool :=
  U.all fun p => match p.2 with
    | some j => edgeOn ops i j && (match ops[j]? with | some o => o.dst == some p.1 | none => false)
    | none => (List.range ops.size).all fun j => match ops[j]? with | some o => !(o.dst == some p.1) || j == i || edgeOn ops j i | none => true

section
variable {P : Program} {NG N : Nat} {s : St} {Q : Exit → St → Prop} {ops : Array Oper}

/-- From the values of the first operations on: each next one has a value, whatever has been done besides; K: what holds of all values. -/
def Draw (P : Program) (NG : Nat) (ops : Array Oper) (s : St) (m : Nat) (K : Fr → Nat → Prop) : Nat → Fr → Prop
  | 0, env => ∀ k, s.k ≤ k → K env k
  | n + 1, env => ∃ (o : Oper) (v : Value), ops[m - (n + 1)]? = some o ∧ (∃ U, useOk ops (m - (n + 1)) U = true ∧ ∀ k, s.k ≤ k → stepA P NG ops o ⟨useFr env s.fr U, s.H, k⟩ fun v' H' k' => v' = v ∧ H' = s.H ∧ k ≤ k') ∧ Draw P NG ops s m K n (upd env (m - (n + 1)) (some v))

theorem draw_values {m : Nat} {K : Fr → Nat → Prop} : ∀ (n : Nat) (env : Fr), n ≤ m → (∀ j, m - n ≤ j → env j = none) → Draw P NG ops s m K n env →
    ∃ all : Fr, (∀ i, i < m - n → all i = env i) ∧ (∀ k, s.k ≤ k → K all k) ∧
      ∀ i, m - n ≤ i → i < m → ∃ o v, ops[i]? = some o ∧ all i = some v ∧ ∃ U, useOk ops i U = true ∧ ∀ k, s.k ≤ k → stepA P NG ops o ⟨useFr (fun j => if j < i then all j else none) s.fr U, s.H, k⟩ fun v' H' k' => v' = v ∧ H' = s.H ∧ k ≤ k'
  | 0, env, _, hl, h => ⟨env, fun _ _ => rfl, h, fun i h1 h2 => by omega⟩
  | n + 1, env, hn, hl, h => by
    obtain ⟨o, v, ho, ⟨U, hU, hst⟩, hr⟩ := h
    obtain ⟨all, h2, h3, h4⟩ := draw_values n (upd env (m - (n + 1)) (some v)) (by omega) (fun j hj => by
      rw [upd_other _ _ (by omega)]
      exact hl j (by omega)) hr
    refine ⟨all, fun i hi => ?_, h3, fun i hi1 hi2 => ?_⟩
    · rw [h2 i (by omega), upd_other _ _ (by omega)]
    · rcases Nat.lt_or_ge i (m - n) with hlt | hge
      · have e : i = m - (n + 1) := by omega
        subst e
        refine ⟨o, v, ho, ?_, U, hU, fun k hk => ?_⟩
        · rw [h2 _ (by omega), upd_same]
        · have e2 : (fun j => if j < m - (n + 1) then all j else none) = env := by
            funext j
            by_cases hj : j < m - (n + 1)
            · rw [if_pos hj, h2 j (by omega), upd_other _ _ (by omega)]
            · rw [if_neg hj, hl j (by omega)]
          rw [e2]
          exact hst k hk
      · exact h4 i hge hi2

theorem AOp.less {o : Oper} {fr fr' : Fr} {H : Hp} {k : Nat} {R : Value → Hp → Nat → Prop} (h : AOp P NG o ⟨fr', H, k⟩ R) (hl : ∀ t v, fr' t = some v → fr t = some v) : AOp P NG o ⟨fr, H, k⟩ R :=
  fun N B w0 G a w hs next Q hn => h N B w0 G a w ⟨hs.S, hs.F.less hl⟩ next Q hn

theorem stepA_less {o : Oper} {fr fr' : Fr} {H : Hp} {k : Nat} {R : Value → Hp → Nat → Prop} (h : stepA P NG ops o ⟨fr', H, k⟩ R) (hl : ∀ t v, fr' t = some v → fr t = some v) : stepA P NG ops o ⟨fr, H, k⟩ R := by
  unfold stepA at h ⊢
  have hw : ∀ b, wantedA ops fr' o = some b → wantedA ops fr o = some b := by
    intro b hb
    unfold wantedA at hb ⊢
    cases hg : o.guard with
    | none => simp only [hg] at hb ⊢; exact hb
    | some p =>
      obtain ⟨j, want⟩ := p
      simp only [hg] at hb ⊢
      cases hd : (ops[j]?).bind (·.dst) with
      | none => simp [hd] at hb
      | some t =>
        simp only [hd] at hb ⊢
        cases hf : fr' t with
        | none => simp [hf] at hb
        | some v =>
          rw [hf] at hb
          rw [hl t v hf]
          exact hb
  cases hb : wantedA ops fr' o with
  | none => rw [hb] at h; exact h.elim
  | some b =>
    rw [hw b hb]
    rw [hb] at h
    cases b with
    | true => exact h.less hl
    | false => exact h

theorem useFr_get {env : Fr} {fr0 : Fr} {t : Nat} {v : Value} : ∀ (U : List (Nat × Option Nat)), useFr env fr0 U t = some v → (∃ j, (t, some j) ∈ U ∧ env j = some v) ∨ ((t, none) ∈ U ∧ fr0 t = some v)
  | [], h => by simp [useFr] at h
  | (u, some j) :: U, h => by
    simp only [useFr] at h
    by_cases hu : t = u
    · subst hu
      rw [upd_same] at h
      exact .inl ⟨j, List.mem_cons_self, h⟩
    · rw [upd_other _ _ hu] at h
      rcases useFr_get U h with ⟨j', h1, h2⟩ | ⟨h1, h2⟩
      · exact .inl ⟨j', List.mem_cons_of_mem _ h1, h2⟩
      · exact .inr ⟨List.mem_cons_of_mem _ h1, h2⟩
  | (u, none) :: U, h => by
    simp only [useFr] at h
    by_cases hu : t = u
    · subst hu
      rw [upd_same] at h
      exact .inr ⟨List.mem_cons_self, h⟩
    · rw [upd_other _ _ hu] at h
      rcases useFr_get U h with ⟨j', h1, h2⟩ | ⟨h1, h2⟩
      · exact .inl ⟨j', List.mem_cons_of_mem _ h1, h2⟩
      · exact .inr ⟨List.mem_cons_of_mem _ h1, h2⟩

/-- The region: the first m operations in whatever order, each with its value; the others in the text's order. -/
theorem ACode.draw {id : Nat} (m : Nat) (L : List (Nat × Nat)) (hm : P.follows .mixedOrders = true) (hok : drawOk N ops m L = true)
    (h : Draw P NG ops s m (fun env k => aOps P NG ops (Q .normal) (List.range' m (ops.size - m)) ⟨puts s.fr (L.map fun p => (p.2, (env p.1).getD undef)), s.H, k⟩) m (fun _ => none)) : ACode P NG N (.region id ops true) Q s := by
  have hmn : m ≤ ops.size := by
    unfold drawOk at hok
    simp only [Bool.and_eq_true, decide_eq_true_eq] at hok
    exact hok.1.1.1.1.2
  obtain ⟨all, _, h3, h4⟩ := draw_values m (fun _ => none) (Nat.le_refl _) (fun _ _ => rfl) h
  refine ACode.region_tail m L hm hok Eq (fun _ => rfl) (fun h k => h.trans k) (fun i v _ => all i = some v) (fun i v H H' h _ => h) ?_ ?_
  · intro i o ho hi fr H k hH hk hdeps holds
    subst hH
    obtain ⟨o', v, ho', hv, U, hU, hst⟩ := h4 i (by omega) hi
    rw [ho] at ho'
    injection ho' with ho'
    subst ho'
    refine (stepA_less (hst k hk) fun t u hu => ?_).mono fun v' H' k' ⟨e1, e2, e3⟩ => ⟨by rw [e1]; exact hv, e2.symm, e3⟩
    unfold useOk at hU
    rw [List.all_eq_true] at hU
    rcases useFr_get U hu with ⟨j, hj, hu2⟩ | ⟨hj, hu2⟩
    · have := hU _ hj
      simp only [Bool.and_eq_true] at this
      obtain ⟨he, hd⟩ := this
      cases hoj : ops[j]? with
      | none => simp [hoj] at hd
      | some oj =>
        simp only [hoj, beq_iff_eq] at hd
        obtain ⟨v', hv1, hv2⟩ := hdeps j oj t hoj he hd
        rw [hv1]
        split at hu2
        · rw [hv2] at hu2; exact hu2
        · cases hu2
    · have := hU _ hj
      simp only [List.all_eq_true] at this
      rw [holds t fun j oj hoj hdj => ?_]
      · exact hu2
      · have hlt := (Array.getElem?_eq_some_iff.1 hoj).1
        have h5 := this j (List.mem_range.2 hlt)
        simp only [hoj, hdj, beq_self_eq_true, Bool.not_true, Bool.false_or, Bool.or_eq_true, beq_iff_eq] at h5
        exact h5
  · intro vs H k hH hk hφ
    subst hH
    have := h3 k hk
    have e : (L.map fun p => (p.2, (all p.1).getD undef)) = L.map fun p => (p.2, vs p.1) := by
      refine List.map_congr_left fun p hp => ?_
      have := hφ p hp
      simp [this]
    rw [e] at this
    exact this

theorem ACode.draw' {id : Nat} {fr : Fr} {H : Hp} {nk : Nat} (m : Nat) (L : List (Nat × Nat)) (hm : P.follows .mixedOrders = true) (hok : drawOk N ops m L = true)
    (h : Draw P NG ops ⟨fr, H, nk⟩ m (fun env k => aOps P NG ops (Q .normal) (List.range' m (ops.size - m)) ⟨puts fr (L.map fun p => (p.2, (env p.1).getD undef)), H, k⟩) m (fun _ => none)) : ACode P NG N (.region id ops true) Q ⟨fr, H, nk⟩ := ACode.draw m L hm hok h
variable {fr : Fr} {H : Hp} {nk : Nat}
theorem Draw.step {m n : Nat} {K : Fr → Nat → Prop} {env : Fr} {o : Oper} {v : Value} (U : List (Nat × Option Nat)) (ho : ops[m - (n + 1)]? = some o) (hU : useOk ops (m - (n + 1)) U = true) (hw : wantedA ops (useFr env fr U) o = some true)
    (h : ∀ k, nk ≤ k → AOp P NG o ⟨useFr env fr U, H, k⟩ fun v' H' k' => v' = v ∧ H' = H ∧ k ≤ k') (hr : Draw P NG ops ⟨fr, H, nk⟩ m K n (upd env (m - (n + 1)) (some v))) : Draw P NG ops ⟨fr, H, nk⟩ m K (n + 1) env :=
  ⟨o, v, ho, ⟨U, hU, fun k hk => by unfold stepA; rw [hw]; exact h k hk⟩, hr⟩
theorem Draw.skip {m n : Nat} {K : Fr → Nat → Prop} {env : Fr} {o : Oper} (U : List (Nat × Option Nat)) (ho : ops[m - (n + 1)]? = some o) (hU : useOk ops (m - (n + 1)) U = true) (hw : wantedA ops (useFr env fr U) o = some false)
    (hr : Draw P NG ops ⟨fr, H, nk⟩ m K n (upd env (m - (n + 1)) (some undef))) : Draw P NG ops ⟨fr, H, nk⟩ m K (n + 1) env :=
  ⟨o, undef, ho, ⟨U, hU, fun k hk => by unfold stepA; rw [hw]; exact ⟨rfl, rfl, Nat.le_refl _⟩⟩, hr⟩
theorem Draw.done {m : Nat} {K : Fr → Nat → Prop} {env : Fr} (h : ∀ k, nk ≤ k → K env k) : Draw P NG ops ⟨fr, H, nk⟩ m K 0 env := h

/-! ### A frame written out -/
def frL : List (Nat × Value) → Fr
  | [] => fun _ => none
  | (t, v) :: l => upd (frL l) t (some v)
def Has (fr : Fr) (l : List (Nat × Value)) : Prop := ∀ p ∈ l, fr p.1 = some p.2
theorem Has.nil {fr : Fr} : Has fr [] := fun p hp => by cases hp
theorem Has.cons {fr : Fr} {l : List (Nat × Value)} {t : Nat} {v : Value} (h : fr t = some v) (hl : Has fr l) : Has fr ((t, v) :: l) := fun p hp => by
  rcases List.mem_cons.1 hp with rfl | hp
  · exact h
  · exact hl p hp
theorem frL_get {t : Nat} {v : Value} : ∀ (l : List (Nat × Value)), frL l t = some v → (t, v) ∈ l
  | [], h => by simp [frL] at h
  | (u, x) :: l, h => by
    simp only [frL] at h
    by_cases hu : t = u
    · subst hu
      rw [upd_same] at h
      injection h with h
      subst h
      exact List.mem_cons_self
    · rw [upd_other _ _ hu] at h
      exact List.mem_cons_of_mem _ (frL_get l h)
theorem ACode.has {c : Code} {l : List (Nat × Value)} (h : Has fr l) (hc : ACode P NG N c Q ⟨frL l, H, nk⟩) : ACode P NG N c Q ⟨fr, H, nk⟩ :=
  ACode.less hc fun t v ht => h (t, v) (frL_get l ht)
end
end Go.Ab
